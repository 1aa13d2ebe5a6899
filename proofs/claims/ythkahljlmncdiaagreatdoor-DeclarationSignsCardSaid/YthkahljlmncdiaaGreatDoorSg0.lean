/-
Part 0 of the road to the statement: AmDef, AmMono, AmRep, AmTab, AmRel, AmInv, AmOp1, AmOp2, AmOp3, AmOp4, AmOp5, AmOp6, AmOp7, AmCall1, AmCall2, AmOp8.
-/
import Derived.Calls
import Derived.Orders
import Derived.Laws.CopyRow
import Derived.Lib.ItoaNum
import Derived.Lib.LaidTab
import Derived.Room.Entries
import Derived.IntWalk
import Derived.Laws.BytesString
import Derived.Laws.Concat
import Derived.Laws.Strings
import Derived.Laws.Slices
set_option linter.unusedVariables false
set_option linter.unusedSimpArgs false
/-
The abstract machine: an evaluator of the model's code over pure values. Slices are lists, variables in memory have names of their own, there is no tape and no address. It is proved sound in the texts behind this one.
-/
namespace Go.Am
open Go
/-- one cell that never changes -/
inductive PV where
  | int (k : IntKind) (n : Int)
  | bool (b : Bool)
  | str (l : List UInt8)
  | sl (n : Nat) (cells : List PV)
  | nilif
  | anyif
  | nilptr
  | nilfn
/-- names of blocks -/
inductive Id where
  | arg (j : Nat)
  | ret (j : Nat)
  | site (r o j : Nat)
def Id.beq : Id → Id → Bool
  | .arg a, .arg b => a == b
  | .ret a, .ret b => a == b
  | .site a b c, .site d e f => a == d && (b == e && c == f)
  | _, _ => false
theorem Id.eq_of_beq : ∀ {a b : Id}, Id.beq a b = true → a = b
  | .arg a, .arg b, h => by simpa [Id.beq] using h
  | .ret a, .ret b, h => by simpa [Id.beq] using h
  | .site a b c, .site d e f, h => by simpa [Id.beq] using h
  | .arg _, .ret _, h => by cases h
  | .arg _, .site _ _ _, h => by cases h
  | .ret _, .arg _, h => by cases h
  | .ret _, .site _ _ _, h => by cases h
  | .site _ _ _, .arg _, h => by cases h
  | .site _ _ _, .ret _, h => by cases h
theorem Id.beq_self : ∀ (a : Id), Id.beq a a = true
  | .arg a => by simp [Id.beq]
  | .ret a => by simp [Id.beq]
  | .site a b c => by simp [Id.beq]
instance : DecidableEq Id := fun a b =>
  if h : Id.beq a b = true then isTrue (Id.eq_of_beq h) else isFalse fun e => h (e ▸ Id.beq_self a)
/-- places of the abstract state: a temporary, or a block -/
inductive Loc where
  | t (n : Nat)
  | i (id : Id)
def Loc.beq : Loc → Loc → Bool
  | .t a, .t b => a == b
  | .i a, .i b => Id.beq a b
  | _, _ => false
theorem Loc.eq_of_beq : ∀ {a b : Loc}, Loc.beq a b = true → a = b
  | .t a, .t b, h => by simpa [Loc.beq] using h
  | .i a, .i b, h => by rw [show a = b from Id.eq_of_beq h]
  | .t _, .i _, h => by cases h
  | .i _, .t _, h => by cases h
theorem Loc.beq_self : ∀ (a : Loc), Loc.beq a a = true
  | .t a => by simp [Loc.beq]
  | .i a => Id.beq_self a
instance : DecidableEq Loc := fun a b =>
  if h : Loc.beq a b = true then isTrue (Loc.eq_of_beq h) else isFalse fun e => h (e ▸ Loc.beq_self a)
/-- abstract values: of one cell, aggregates, tuples; and what a block holds -/
inductive AV where
  | pv (p : PV)
  | nilsl
  | ptr (id : Id) (g off : Nat)
  | osl (id : Id) (g n : Nat)
  | rptr (cells : List PV) (off : Nat)
  | fn (f : FuncId) (first cap : List AV)
  | agg (l : List AV)
  | tup (l : List AV)
  | any
  | box (g : Nat) (cells : List AV)
  | row (g sz : Nat) (pub : Bool) (cells : List PV)
abbrev St := Loc → AV
def upd (s : St) (x : Loc) (v : AV) : St := fun y => if y = x then v else s y
def upds (s : St) : List (Loc × AV) → St
  | [] => s
  | (x, v) :: r => upds (upd s x v) r
/-- a computation that reads the state, tells what it read, and may fail -/
def RM (α : Type) : Type := St → Option (α × List Loc)
def RM.pure {α : Type} (a : α) : RM α := fun _ => some (a, [])
def RM.bind {α β : Type} (m : RM α) (f : α → RM β) : RM β := fun s =>
  match m s with
  | none => none
  | some (a, l) => match f a s with
    | none => none
    | some (b, l') => some (b, l ++ l')
instance : Monad RM where
  pure := RM.pure
  bind := RM.bind
def RM.fail {α : Type} : RM α := fun _ => none
def rd (x : Loc) : RM AV := fun s => some (s x, [x])
def lift {α : Type} : Option α → RM α
  | some a => RM.pure a
  | none => RM.fail
def need (b : Bool) : RM Unit := if b = true then RM.pure () else RM.fail
/-! ### types and functions of the program, in a light form -/
inductive TD where
  | int (k : IntKind)
  | bool
  | str
  | slice (e : TypeId)
  | array (n : Nat) (e : TypeId)
  | struct (fs : List (TypeId × Nat))
  | ptr (e : TypeId)
  | iface
  | func
  | other
structure TyA where
  sz : Nat
  bytes : Nat
  agg : Bool
  d : TD
  zero : Option (List AV)
def tdOf : TypeDesc → TD
  | .int k => .int k
  | .bool => .bool
  | .string => .str
  | .slice e => .slice e
  | .array n e => .array n e
  | .struct fs => .struct (fs.toList.map fun f => (f.type, f.offset))
  | .pointer e => .ptr e
  | .interface _ => .iface
  | .func _ _ _ => .func
  | _ => .other
/-- a constant of one cell -/
def cellOf : Value → Option AV
  | .int k n => some (.pv (.int k n))
  | .bool b => some (.pv (.bool b))
  | .string s => some (.pv (.str s.data.toList))
  | .slice none 0 0 => some .nilsl
  | .pointer none => some (.pv .nilptr)
  | .nilIface => some (.pv .nilif)
  | .nilFunc => some (.pv .nilfn)
  | _ => none
def cellsOf : List Value → Option (List AV)
  | [] => some []
  | v :: vs => match cellOf v with
    | none => none
    | some a => match cellsOf vs with
      | none => none
      | some l => some (a :: l)
def constOf : Value → Option AV
  | .agg cs => match cellsOf cs.toList with
    | some l => some (.agg l)
    | none => none
  | .tuple vs => if vs.toList.isEmpty then some (.tup []) else none
  | v => cellOf v
def aggOf : TypeDesc → Bool
  | .struct _ | .array _ _ => true
  | _ => false
def tyA (P : Program) (t : TypeId) : Option TyA :=
  match P.info? t, P.underlying t with
  | some i, some d => some { sz := i.size, bytes := i.bytes, agg := aggOf d, d := tdOf d, zero := i.zero.bind fun z => cellsOf z.cells.toList }
  | _, _ => none
structure FnA where
  fn : Func
  code : Code
/-- all that is written is among the function's temporaries -/
def dstOk (n : Nat) : Code → Bool
  | .region _ ops _ => ops.toList.all fun o => match o.dst with
    | some d => decide (d < n)
    | none => true
  | .seq a b => dstOk n a && dstOk n b
  | .cond _ a b => dstOk n a && dstOk n b
  | .block _ b => dstOk n b
  | .loop b => dstOk n b
  | _ => true
def fnA (P : Program) (f : FuncId) : Option FnA :=
  match P.funcs[f]? with
  | none => none
  | some fn => if fn.name == "runtime.NumGoroutine" then none else
    match fn.body with
    | none => none
    | some c => if dstOk fn.ntmps c = true then some { fn := fn, code := c } else none
/-! ### operations -/
def sub? {α : Type} (l : List α) (off n : Nat) : Option (List α) :=
  if off + n ≤ l.length then some ((l.drop off).take n) else none
def put? {α : Type} (l : List α) (off : Nat) (new : List α) : Option (List α) :=
  if off + new.length ≤ l.length then some (l.take off ++ new ++ l.drop (off + new.length)) else none
def gen : AV → Nat
  | .box g _ => g
  | .row g _ _ _ => g
  | _ => 0
def flat : AV → List AV
  | .agg l => l
  | v => [v]
def isCell : AV → Bool
  | .pv _ | .nilsl | .ptr _ _ _ | .osl _ _ _ | .rptr _ _ | .fn _ _ _ => true
  | _ => false
structure Eff where
  v : AV
  wr : List (Loc × AV)
def ret (v : AV) : RM Eff := RM.pure { v := v, wr := [] }
def evO : Operand → RM AV
  | .tmp t => rd (.t t)
  | .const v => lift (constOf v)
  | .func f => RM.pure (.fn f [] [])
  | .global _ => RM.fail
def evOs : List Operand → RM (List AV)
  | [] => RM.pure []
  | o :: os => do
    let v ← evO o
    let vs ← evOs os
    RM.pure (v :: vs)
/-- what is published: own slices become lists -/
def pub1 : AV → RM (AV × List (Loc × AV))
  | .osl id g n => do
    let e ← rd (.i id)
    match e with
    | .row g' sz _ cells => if g' = g then RM.pure (.pv (.sl n (cells.take (n * sz))), [(.i id, .row g' sz true cells)]) else RM.fail
    | _ => RM.fail
  | .nilsl => RM.pure (.pv (.sl 0 []), [])
  | .any | .box _ _ | .row _ _ _ _ => RM.fail
  | v => RM.pure (v, [])
def pub1s : List AV → RM (List AV × List (Loc × AV))
  | [] => RM.pure ([], [])
  | v :: vs => do
    let (w, p) ← pub1 v
    let (ws, q) ← pub1s vs
    RM.pure (w :: ws, p ++ q)
def pubV : AV → RM (AV × List (Loc × AV))
  | .agg l => do
    let (w, p) ← pub1s l
    RM.pure (.agg w, p)
  | v => pub1 v
def pubs : List AV → RM (List AV × List (Loc × AV))
  | [] => RM.pure ([], [])
  | v :: vs => do
    let (w, p) ← pubV v
    let (ws, q) ← pubs vs
    RM.pure (w :: ws, p ++ q)
/-- cells that may lie in a row -/
def pureCells : List AV → Option (List PV)
  | [] => some []
  | .pv p :: r => match pureCells r with
    | some l => some (p :: l)
    | none => none
  | _ => none
def lookW : List (Loc × AV) → Loc → Option AV
  | [], _ => none
  | (y, v) :: r, x => match lookW r x with
    | some u => some u
    | none => if x = y then some v else none
/-- reads a place as it is behind some writes -/
def rdW (w : List (Loc × AV)) (x : Loc) : RM AV := do
  let v ← rd x
  RM.pure ((lookW w x).getD v)
def loadP (ty : TyA) (cells : List PV) (off : Nat) : Option AV :=
  if ty.agg = true then (sub? cells off ty.sz).map fun l => .agg (l.map .pv) else (cells[off]?).map .pv
def loadC (ty : TyA) (cells : List AV) (off : Nat) : Option AV :=
  if ty.agg = true then (sub? cells off ty.sz).map .agg else cells[off]?
section
variable (P : Program)
def loadA (t : TypeId) (p : AV) : RM AV := do
  let ty ← lift (tyA P t)
  match p with
  | .rptr cells off => lift (loadP ty cells off)
  | .ptr id g off => do
    let e ← rd (.i id)
    match e with
    | .box g' cells => if g' = g then lift (loadC ty cells off) else RM.fail
    | .row g' _ _ cells => if g' = g then lift (loadP ty cells off) else RM.fail
    | _ => RM.fail
  | _ => RM.fail
def storeA (t : TypeId) (p x : AV) : RM Eff := do
  let ty ← lift (tyA P t)
  match p with
  | .ptr id g off => do
    let e ← rd (.i id)
    match e with
    | .box g' cells => do
      need (decide (g' = g) && (decide ((flat x).length = ty.sz) && (flat x).all isCell))
      let cells' ← lift (put? cells off (flat x))
      RM.pure { v := .tup [], wr := [(.i id, .box g' cells')] }
    | .row g' sz pub cells => do
      need (decide (g' = g) && (!pub && decide ((flat x).length = ty.sz)))
      let (y, w) ← pubV x
      need (w.all fun q => decide (q.1 ≠ .i id))
      let l ← lift (pureCells (flat y))
      let cells' ← lift (put? cells off l)
      RM.pure { v := .tup [], wr := w ++ [(.i id, .row g' sz false cells')] }
    | _ => RM.fail
  | _ => RM.fail
def newBox (r o : Nat) (cells : List AV) : RM Eff := do
  need (cells.all isCell)
  let e ← rd (.i (.site r o 0))
  RM.pure { v := .ptr (.site r o 0) (gen e + 1) 0, wr := [(.i (.site r o 0), .box (gen e + 1) cells)] }
/-- a new row of its own -/
def newRowA (r o n sz : Nat) (cells : List PV) (w : List (Loc × AV)) : RM Eff := do
  let e ← rd (.i (.site r o 0))
  RM.pure { v := .osl (.site r o 0) (gen e + 1) n, wr := w ++ [(.i (.site r o 0), .row (gen e + 1) sz false cells)] }
def zeroOf (ty : TyA) : RM (List AV) := lift ty.zero
def fillA (place : Nat → Option (Nat × Nat)) (cells : List AV) : List (Nat × AV) → Option (List AV)
  | [] => some cells
  | (i, v) :: r => match place i with
    | none => none
    | some (off, size) => if (decide ((flat v).length = size) && (flat v).all isCell) = true then
        match put? cells off (flat v) with
        | some c => fillA place c r
        | none => none
      else none
/-- the places of a struct's fields -/
def placesA : List (TypeId × Nat) → Option (List (Nat × Nat))
  | [] => some []
  | (t, off) :: r => match tyA P t with
    | none => none
    | some ty => match placesA r with
      | some l => some ((off, ty.sz) :: l)
      | none => none
def evParts : List (Nat × Operand) → RM (List (Nat × AV))
  | [] => RM.pure []
  | (i, o) :: r => do
    let v ← evO o
    let vs ← evParts r
    RM.pure ((i, v) :: vs)
def buildA (t : TypeId) (parts : List (Nat × AV)) : RM Eff := do
  let ty ← lift (tyA P t)
  let z ← zeroOf ty
  match ty.d with
  | .struct fs => do
    let pl ← lift (placesA P fs)
    let c ← lift (fillA (pl[·]?) z parts)
    need (c.all isCell)
    ret (.agg c)
  | .array n e => do
    let te ← lift (tyA P e)
    let c ← lift (fillA (fun i => some (i * te.sz, te.sz)) z parts)
    need (c.all isCell)
    ret (.agg c)
  | _ => RM.fail
def repeatA {α : Type} (l : List α) : Nat → List α
  | 0 => []
  | n + 1 => l ++ repeatA l n
def pubParts : List (Nat × AV) → RM (List (Nat × AV) × List (Loc × AV))
  | [] => RM.pure ([], [])
  | (i, v) :: vs => do
    let (w, p) ← pubV v
    let (ws, q) ← pubParts vs
    RM.pure ((i, w) :: ws, p ++ q)
def sliceElem (t : TypeId) : RM (TypeId × TyA) := do
  let ty ← lift (tyA P t)
  match ty.d with
  | .slice e => do
    let te ← lift (tyA P e)
    RM.pure (e, te)
  | _ => RM.fail
/-- a zero value's cells, for a row -/
def zeroCell : AV → Option PV
  | .pv p => some p
  | .nilsl => some (.sl 0 [])
  | _ => none
def zeroCells : List AV → Option (List PV)
  | [] => some []
  | a :: l => match zeroCell a, zeroCells l with
    | some p, some ps => some (p :: ps)
    | _, _ => none
def zeroP (ty : TyA) : RM (List PV) := do
  let z ← zeroOf ty
  need (decide (z.length = ty.sz))
  lift (zeroCells z)
def buildSliceA (r o : Nat) (t : TypeId) (len : Nat) (parts : List (Nat × AV)) : RM Eff := do
  let (_, te) ← sliceElem P t
  need (decide (len * te.sz ≤ 2 ^ 24) && decide (0 < te.sz))
  let z ← zeroP te
  let (ps, w) ← pubParts parts
  let c ← lift (fillA (fun i => some (i * te.sz, te.sz)) ((repeatA z len).map .pv) ps)
  let l ← lift (pureCells c)
  newRowA r o len te.sz l w
def intOfA : AV → RM Int
  | .pv (.int _ n) => RM.pure n
  | _ => RM.fail
def makeSliceA (r o : Nat) (t : TypeId) (len cap : AV) : RM Eff := do
  let (_, te) ← sliceElem P t
  let l ← intOfA len
  let c ← intOfA cap
  need (decide (0 ≤ l) && (decide (l ≤ c) && (decide (te.bytes * c ≤ 2 ^ 47) && (decide (c < 2 ^ 63) && decide (0 < te.sz)))))
  let z ← zeroP te
  newRowA r o l.toNat te.sz (repeatA z c.toNat) []
def binInt (op : BinOp) (k : IntKind) (a b : Int) : Option PV :=
  match op with
  | .add => some (.int k (k.wrap (a + b)))
  | .sub => some (.int k (k.wrap (a - b)))
  | .mul => some (.int k (k.wrap (a * b)))
  | .quo => if b = 0 then none else some (.int k (k.wrap (a.tdiv b)))
  | .rem => if b = 0 then none else some (.int k (a.tmod b))
  | .and => some (.int k (k.wrap (BitVec.ofInt k.bits a &&& BitVec.ofInt k.bits b).toNat))
  | .or => some (.int k (k.wrap (BitVec.ofInt k.bits a ||| BitVec.ofInt k.bits b).toNat))
  | .xor => some (.int k (k.wrap (BitVec.ofInt k.bits a ^^^ BitVec.ofInt k.bits b).toNat))
  | .andNot => some (.int k (k.wrap (BitVec.ofInt k.bits a &&& ~~~ BitVec.ofInt k.bits b).toNat))
  | .eql => some (.bool (decide (a = b)))
  | .neq => some (.bool (decide (a ≠ b)))
  | .lss => some (.bool (decide (a < b)))
  | .leq => some (.bool (decide (a ≤ b)))
  | .gtr => some (.bool (decide (b < a)))
  | .geq => some (.bool (decide (b ≤ a)))
  | _ => none
def binStr (op : BinOp) (a b : List UInt8) : Option PV :=
  match op with
  | .add => if a.length + b.length < 2 ^ 62 then some (.str (a ++ b)) else none
  | .eql => some (.bool (a == b))
  | .neq => some (.bool (!(a == b)))
  | .lss => some (.bool (Op.bytesLess a b))
  | .leq => some (.bool (Op.bytesLess a b || a == b))
  | .gtr => some (.bool (!(Op.bytesLess a b || a == b)))
  | .geq => some (.bool (!Op.bytesLess a b))
  | _ => none
def shiftA (op : BinOp) (k : IntKind) (a b : Int) : Option PV :=
  if b < 0 then none else
  match op with
  | .shl => some (.int k (k.wrap (a * 2 ^ (min b.toNat k.bits))))
  | .shr => some (.int k (a.fdiv (2 ^ (min b.toNat k.bits))))
  | _ => none
def eqSame (op : BinOp) (b : Bool) : Option PV :=
  match op with
  | .eql => some (.bool b)
  | .neq => some (.bool (!b))
  | _ => none
def binA (op : BinOp) (t : TypeId) (x y : AV) : Option PV :=
  match x, y with
  | .pv (.int k a), .pv (.int k' b) =>
    (match op with
    | .shl | .shr => shiftA op k a b
    | _ => if k = k' then binInt op k a b else none)
  | .pv (.str a), .pv (.str b) => binStr op a b
  | .pv (.bool a), .pv (.bool b) => match tyA P t with
    | some ty => (match ty.d with
      | .bool => eqSame op (a == b)
      | _ => none)
    | none => none
  | .pv .nilif, .pv .anyif => match tyA P t with
    | some ty => (match ty.d with
      | .iface => eqSame op false
      | _ => none)
    | none => none
  | .pv .anyif, .pv .nilif => match tyA P t with
    | some ty => (match ty.d with
      | .iface => eqSame op false
      | _ => none)
    | none => none
  | _, _ => none
def isConstO : Operand → Bool
  | .const _ => true
  | _ => false
/-- '==' of two nil interface values, one of them a constant -/
def binNil (op : BinOp) (t : TypeId) (ox oy : Operand) (x y : AV) : Option PV :=
  match x, y with
  | .pv .nilif, .pv .nilif => if isConstO ox || isConstO oy then
      (match tyA P t with
      | some ty => (match ty.d with
        | .iface => eqSame op true
        | _ => none)
      | none => none)
    else none
  | x, y => binA P op t x y
def unA (op : UnOp) (x : AV) : Option PV :=
  match op, x with
  | .neg, .pv (.int k n) => some (.int k (k.wrap (0 - n)))
  | .not, .pv (.bool b) => some (.bool (!b))
  | .xor, .pv (.int k n) => some (.int k (k.wrap (BitVec.ofInt k.bits (if k.signed then -1 else k.max) ^^^ BitVec.ofInt k.bits n).toNat))
  | _, _ => none
def bytesOf (l : List UInt8) : List PV := l.map fun b => .int .u8 b.toNat
def unbytes : List PV → Option (List UInt8)
  | [] => some []
  | .int .u8 n :: r => match unbytes r with
    | some l => some (UInt8.ofNat n.toNat :: l)
    | none => none
  | _ => none
/-- the cells of a slice -/
def rowOf (x : AV) : RM (Nat × List PV) :=
  match x with
  | .pv (.sl n cells) => RM.pure (n, cells)
  | .nilsl => RM.pure (0, [])
  | .osl id g n => do
    let e ← rd (.i id)
    match e with
    | .row g' _ _ cells => if g' = g then RM.pure (n, cells) else RM.fail
    | _ => RM.fail
  | _ => RM.fail
def isU8 : TD → Bool
  | .int .u8 => true
  | _ => false
def isStr : TD → Bool
  | .str => true
  | _ => false
/-- a row of bytes as a string -/
def rowStrA (ts : TyA) (x : AV) : RM Eff := do
  let q ← rowOf x
  match ts.d with
  | .slice e => do
    let te ← lift (tyA P e)
    need (isU8 te.d)
    let c ← lift (sub? q.2 0 q.1)
    let l ← lift (unbytes c)
    ret (.pv (.str l))
  | _ => RM.fail
def convStrA (ts : TyA) (x : AV) : RM Eff :=
  match x with
  | .pv (.str l) => do
    need (isStr ts.d)
    ret (.pv (.str l))
  | x => rowStrA P ts x
def convA (src dst : TypeId) (x : AV) : RM Eff := do
  let ts ← lift (tyA P src)
  let td ← lift (tyA P dst)
  match td.d with
  | .int k => (match x with
    | .pv (.int _ n) => ret (.pv (.int k (k.wrap n)))
    | _ => RM.fail)
  | .slice e => (match x with
    | .pv (.str l) => do
      let te ← lift (tyA P e)
      need (isStr ts.d && isU8 te.d)
      ret (.pv (.sl l.length (bytesOf l)))
    | _ => RM.fail)
  | .str => convStrA P ts x
  | _ => RM.fail
def boundA (d : Nat) : Option AV → RM Nat
  | none => RM.pure d
  | some (.pv (.int _ n)) => if 0 ≤ n then RM.pure n.toNat else RM.fail
  | some _ => RM.fail
def unPvs : List AV → Option (List PV)
  | [] => some []
  | .pv p :: r => match unPvs r with
    | some q => some (p :: q)
    | none => none
  | _ => none
def noHi : Option AV → Bool
  | none => true
  | _ => false
/-- an array in memory as a slice: it is not written any more -/
def sliceArrA (ty : TyA) (id : Id) (g o : Nat) (lo : Option AV) : RM Eff :=
  match ty.d with
  | .array n e => do
    need (decide (o = 0))
    let te ← lift (tyA P e)
    let l ← boundA 0 lo
    need (decide (l ≤ n))
    let en ← rd (.i id)
    (match en with
    | .box g' cells =>
      if g' = g then do
        let ps ← lift (unPvs cells)
        let c ← lift (sub? ps (l * te.sz) ((n - l) * te.sz))
        RM.pure { v := .pv (.sl (n - l) c), wr := [(.i id, .row g' 1 true ps)] }
      else RM.fail
    | _ => RM.fail)
  | _ => RM.fail
def sliceA (t : TypeId) (x : AV) (lo hi : Option AV) : RM Eff := do
  let ty ← lift (tyA P t)
  match x with
  | .ptr id g o => do
    need (noHi hi)
    sliceArrA P ty id g o lo
  | .pv (.str s) => do
    let l ← boundA 0 lo
    let h ← boundA s.length hi
    need (decide (l ≤ h) && decide (h ≤ s.length))
    (match ty.d with
    | .str => ret (.pv (.str ((s.drop l).take (h - l))))
    | _ => RM.fail)
  | .nilsl => do
    let l ← boundA 0 lo
    let h ← boundA 0 hi
    need (decide (l ≤ h) && decide (h ≤ 0))
    (match ty.d with
    | .slice e => do
      let _ ← lift (tyA P e)
      ret .nilsl
    | _ => RM.fail)
  | .pv (.sl n cells) => do
    let l ← boundA 0 lo
    let h ← boundA n hi
    need (decide (l ≤ h) && decide (h ≤ n))
    (match ty.d with
    | .slice e => do
      let te ← lift (tyA P e)
      let c ← lift (sub? cells (l * te.sz) ((h - l) * te.sz))
      ret (.pv (.sl (h - l) c))
    | _ => RM.fail)
  | .osl id g n => do
    let l ← boundA 0 lo
    let h ← boundA n hi
    need (decide (l ≤ h) && decide (h ≤ n))
    (match ty.d with
    | .slice e => do
      let te ← lift (tyA P e)
      let e ← rd (.i id)
      (match e with
      | .row g' sz _ cells =>
        if g' = g then
          if l = 0 then ret (.osl id g h) else do
            let c ← lift (sub? cells (l * te.sz) ((h - l) * te.sz))
            RM.pure { v := .pv (.sl (h - l) c), wr := [(.i id, .row g' sz true cells)] }
        else RM.fail
      | _ => RM.fail)
    | _ => RM.fail)
  | _ => RM.fail
def fieldOffA (t : TypeId) (f : Nat) : RM (TyA × Nat) := do
  let ty ← lift (tyA P t)
  match ty.d with
  | .struct fs => do
    let (ft, off) ← lift fs[f]?
    let tf ← lift (tyA P ft)
    RM.pure (tf, off)
  | _ => RM.fail
def fieldAddrA (t : TypeId) (x : AV) (f : Nat) : RM Eff := do
  let (tf, off) ← fieldOffA P t f
  need (decide (0 < tf.sz))
  match x with
  | .ptr id g o => ret (.ptr id g (o + off))
  | .rptr cells o => ret (.rptr cells (o + off))
  | _ => RM.fail
def fieldA (t : TypeId) (x : AV) (f : Nat) : RM Eff := do
  let (tf, off) ← fieldOffA P t f
  match x with
  | .agg l => (match loadC tf l off with
    | some v => ret v
    | none => RM.fail)
  | _ => RM.fail
def indexAddrA (t : TypeId) (x i : AV) : RM Eff := do
  let ty ← lift (tyA P t)
  let i ← intOfA i
  match ty.d, x with
  | .slice e, .pv (.sl n cells) => do
    let te ← lift (tyA P e)
    need (decide (0 ≤ i) && (decide (i < n) && !cells.isEmpty))
    ret (.rptr cells (i.toNat * te.sz))
  | .slice e, .osl id g n => do
    let te ← lift (tyA P e)
    need (decide (0 ≤ i) && decide (i < n))
    let en ← rd (.i id)
    need (decide (gen en = g))
    ret (.ptr id g (i.toNat * te.sz))
  | .array n e, .ptr id g o => do
    let te ← lift (tyA P e)
    need (decide (0 ≤ i) && decide (i < n))
    ret (.ptr id g (o + i.toNat * te.sz))
  | .array n e, .rptr cells o => do
    let te ← lift (tyA P e)
    need (decide (0 ≤ i) && decide (i < n))
    ret (.rptr cells (o + i.toNat * te.sz))
  | _, _ => RM.fail
def indexA (t : TypeId) (x i : AV) : RM Eff := do
  let ty ← lift (tyA P t)
  let i ← intOfA i
  match ty.d, x with
  | .str, .pv (.str l) => (match (if 0 ≤ i then l[i.toNat]? else none) with
      | some b => ret (.pv (.int .u8 b.toNat))
      | none => RM.fail)
  | .array n e, .agg cs => do
    let te ← lift (tyA P e)
    need (decide (0 ≤ i) && decide (i < n))
    let v ← lift (loadC te cs (i.toNat * te.sz))
    ret v
  | _, _ => RM.fail
def lenA (t : TypeId) (x : AV) : RM Eff := do
  let ty ← lift (tyA P t)
  match ty.d, x with
  | .str, .pv (.str l) => ret (.pv (.int .i64 l.length))
  | .slice _, .pv (.sl n _) => ret (.pv (.int .i64 n))
  | .slice _, .nilsl => ret (.pv (.int .i64 0))
  | .slice _, .osl id g n => do
    let en ← rd (.i id)
    need (decide (gen en = g))
    ret (.pv (.int .i64 n))
  | .array n _, _ => ret (.pv (.int .i64 n))
  | _, _ => RM.fail
def appendA (r o : Nat) (t tx : TypeId) (x y : AV) : RM Eff := do
  let (_, te) ← sliceElem P t
  let ty ← lift (tyA P tx)
  let (m, new) ← (match ty.d, y with
    | .str, .pv (.str l) => do
      need (decide (te.sz = 1))
      RM.pure (l.length, bytesOf l)
    | .slice _, y => do
      let (m, cells) ← rowOf y
      let c ← lift (sub? cells 0 (m * te.sz))
      RM.pure (m, c)
    | _, _ => RM.fail)
  let z ← zeroOf te
  need (decide (0 < te.sz) && (decide (te.sz ≤ te.bytes) && decide (z.length = te.sz)))
  match x with
  | .nilsl => do
    need (decide (m * te.bytes ≤ 2 ^ 46))
    if m = 0 then ret .nilsl else newRowA r o m te.sz new []
  | .osl id g n => do
    let e ← rd (.i id)
    (match e with
    | .row g' sz pub cells => do
      need (decide (g' = g) && (!pub && (decide (sz = te.sz) && decide ((n + m) * te.bytes ≤ 2 ^ 46))))
      let old ← lift (sub? cells 0 (n * te.sz))
      RM.pure { v := .osl id (g + 1) (n + m), wr := [(.i id, .row (g + 1) sz false (old ++ new))] }
    | _ => RM.fail)
  | _ => RM.fail
def min2A (x y : AV) : Option AV :=
  match x, y with
  | .pv (.int k a), .pv (.int _ b) => some (.pv (.int k (if b < a then b else a)))
  | _, _ => none
def max2A (x y : AV) : Option AV :=
  match x, y with
  | .pv (.int k a), .pv (.int _ b) => some (.pv (.int k (if a < b then b else a)))
  | _, _ => none
def foldA (f : AV → AV → Option AV) : AV → List AV → Option AV
  | x, [] => some x
  | x, y :: r => match f x y with
    | some z => foldA f z r
    | none => none
def builtinA (r o : Nat) (b : Builtin) (ts : List TypeId) (vs : List AV) : RM Eff :=
  match b with
  | .len => (match ts, vs with
    | [t], [x] => lenA P t x
    | _, _ => RM.fail)
  | .append => (match ts, vs with
    | [t, tx], [x, y] => appendA P r o t tx x y
    | _, _ => RM.fail)
  | .min => (match vs with
    | x :: l => do
      let v ← lift (foldA min2A x l)
      ret v
    | [] => RM.fail)
  | .max => (match vs with
    | x :: l => do
      let v ← lift (foldA max2A x l)
      ret v
    | [] => RM.fail)
  | _ => RM.fail
/-! ### calls -/
mutual
def idsV : AV → List Id
  | .ptr id _ _ => [id]
  | .osl id _ _ => [id]
  | .fn _ a b => idsL a ++ idsL b
  | .agg l => idsL l
  | .tup l => idsL l
  | .box _ l => idsL l
  | _ => []
def idsL : List AV → List Id
  | [] => []
  | v :: vs => idsV v ++ idsL vs
end
/-- a renaming: the name, the state of its block that counts, the new one -/
abbrev Ren := Id → Option (Id × Nat × Nat)
mutual
def renV (m : Ren) : AV → AV
  | .ptr id g off => match m id with
    | some (id', cur, new) => if g = cur then .ptr id' new off else .any
    | none => .any
  | .osl id g n => match m id with
    | some (id', cur, new) => if g = cur then .osl id' new n else .any
    | none => .any
  | .fn f a b => .fn f (renL m a) (renL m b)
  | .agg l => .agg (renL m l)
  | .tup l => .tup (renL m l)
  | .pv p => .pv p
  | .nilsl => .nilsl
  | .rptr c o => .rptr c o
  | .any => .any
  | .box g l => .box g (renL m l)
  | .row g sz p l => .row g sz p l
def renL (m : Ren) : List AV → List AV
  | [] => []
  | v :: vs => renV m v :: renL m vs
end
def setGen (g : Nat) : AV → AV
  | .box _ l => .box g l
  | .row _ sz p l => .row g sz p l
  | v => v
def isEnt : AV → Bool
  | .box _ _ | .row _ _ _ _ => true
  | _ => false
def dedup : List Id → List Id → List Id
  | acc, [] => acc
  | acc, x :: r => dedup (if acc.contains x then acc else acc ++ [x]) r
def idx? : List Id → Id → Option Nat
  | [], _ => none
  | y :: r, x => if x = y then some 0 else (idx? r x).map (· + 1)
/-- the entries of some blocks -/
def entries (w : List (Loc × AV)) : List Id → RM (List AV)
  | [] => RM.pure []
  | x :: r => do
    let e ← rdW w (.i x)
    need (isEnt e)
    let es ← entries w r
    RM.pure (e :: es)
/-- two rounds of what is reached -/
def reach (w : List (Loc × AV)) (l : List Id) : RM (List Id) := do
  let es ← entries w l
  let l1 := dedup l (idsL es)
  if l1.length = l.length then RM.pure l else do
    let es1 ← entries w l1
    RM.pure (dedup l1 (idsL es1))
def renTo (l : List Id) (es : List AV) (mk : Nat → Id) : Ren := fun x =>
  match idx? l x with
  | some j => match es[j]? with
    | some e => some (mk j, gen e, 0)
    | none => none
  | none => none
def nodupB : List Id → Bool
  | [] => true
  | x :: r => !r.contains x && nodupB r
/-- back behind a call: the blocks that were handed over, and the new ones -/
def renBack (r o : Nat) (l : List Id) (es bs news : List AV) (gs : Nat → Nat) : Ren
  | .arg j => match l[j]?, es[j]?, bs[j]? with
    | some x, some e, some b => some (x, gen b, gen e + gen b)
    | _, _, _ => none
  | .ret j => match news[j]? with
    | some b => some (.site r o j, gen b, gs j + gen b)
    | none => none
  | .site _ _ _ => none
def backW (m : Ren) : List Id → List AV → List AV → List (Loc × AV)
  | x :: l, e :: es, b :: bs => (.i x, setGen (gen e + gen b) (renV m b)) :: backW m l es bs
  | _, _, _ => []
/-- none of some blocks is named after this place -/
def noSite (r o : Nat) : List Id → Bool
  | [] => true
  | .site a b _ :: l => !(a == r && b == o) && noSite r o l
  | _ :: l => noSite r o l
def newsW (m : Ren) (r o : Nat) (gs : Nat → Nat) : Nat → List AV → List (Loc × AV)
  | _, [] => []
  | j, b :: bs => (.i (.site r o j), setGen (gs j + gen b) (renV m b)) :: newsW m r o gs (j + 1) bs
def gens (r o : Nat) : Nat → Nat → RM (List Nat)
  | 0, _ => RM.pure []
  | n + 1, j => do
    let e ← rd (.i (.site r o j))
    let l ← gens r o n (j + 1)
    RM.pure (gen e :: l)
abbrev Sm := List AV → List AV → Option (AV × List AV × List AV)
def callA (sm : Sm) (r o : Nat) (vals : List AV) : RM Eff := do
  let (vs, w) ← pubs vals
  let l ← reach w (dedup [] (idsL vs))
  need (nodupB l)
  let es ← entries w l
  let m := renTo l es Id.arg
  let (v, bs, news) ← lift (sm (renL m vs) ((renL m es).map (setGen 0)))
  need (decide (bs.length = es.length) && (bs.all isEnt && news.all fun b => isEnt b && decide (0 < gen b)))
  need (news.isEmpty || noSite r o l)
  let gl ← gens r o news.length 0
  let gs := fun j => gl.getD j 0
  let m' := renBack r o l es bs news gs
  RM.pure { v := renV m' v, wr := w ++ (backW m' l es bs ++ newsW m' r o gs 0 news) }
/-! ### an operation -/
abbrev Fs := FuncId → Sm
def typesOf (c : Call) : List TypeId := c.argTypes.toList
def callOpA (call : Fs) (r o : Nat) (c : Call) : RM Eff :=
  match c.callee with
  | .builtin b => do
    let vs ← evOs c.args.toList
    builtinA P r o b (typesOf c) vs
  | .value f => do
    let fv ← evO f
    let vs ← evOs c.args.toList
    match fv with
    | .fn g first cap => callA (call g) r o (first ++ (vs ++ cap))
    | _ => RM.fail
  | .invoke _ _ => RM.fail
def evOpt : Option Operand → RM (Option AV)
  | none => RM.pure none
  | some o => do
    let v ← evO o
    RM.pure (some v)
def opA (call : Fs) (r j : Nat) (o : Op) : RM Eff :=
  match o with
  | .move x | .assign x => do
    let v ← evO x
    ret v
  | .pick c a b => do
    let cv ← evO c
    match cv with
    | .pv (.bool true) => do
      let v ← evO a
      ret v
    | .pv (.bool false) => do
      let v ← evO b
      ret v
    | _ => RM.fail
  | .alloc e => do
    let ty ← lift (tyA P e)
    let z ← zeroOf ty
    newBox r j z
  | .box _ x => do
    let v ← evO x
    newBox r j (flat v)
  | .build t parts => do
    let ps ← evParts parts.toList
    buildA P t ps
  | .buildSlice t n parts => do
    let ps ← evParts parts.toList
    buildSliceA P r j t n ps
  | .load t a => do
    let p ← evO a
    let v ← loadA P t p
    ret v
  | .store t a x => do
    let p ← evO a
    let v ← evO x
    storeA P t p v
  | .nilCheck x => do
    let v ← evO x
    match v with
    | .ptr id g off => ret (.ptr id g off)
    | .rptr c off => ret (.rptr c off)
    | _ => RM.fail
  | .binOp op t x y _ => do
    let a ← evO x
    let b ← evO y
    match binNil P op t x y a b with
    | some p => ret (.pv p)
    | none => RM.fail
  | .unOp op _ x => do
    let a ← evO x
    match unA op a with
    | some p => ret (.pv p)
    | none => RM.fail
  | .convert src dst x => do
    let a ← evO x
    convA P src dst a
  | .makeFunc fn first cap => do
    let a ← evOs first.toList
    let b ← evOs cap.toList
    match fn with
    | .func f => ret (.fn f a b)
    | _ => RM.fail
  | .makeSlice t l c => do
    let a ← evO l
    let b ← evO c
    makeSliceA P r j t a b
  | .slice t x lo hi none => do
    let v ← evO x
    let l ← evOpt lo
    let h ← evOpt hi
    sliceA P t v l h
  | .fieldAddr t x f => do
    let v ← evO x
    fieldAddrA P t v f
  | .field t x f => do
    let v ← evO x
    fieldA P t v f
  | .indexAddr t x i => do
    let v ← evO x
    let n ← evO i
    indexAddrA P t v n
  | .index t x i => do
    let v ← evO x
    let n ← evO i
    indexA P t v n
  | .extract t i => do
    let v ← evO t
    match v with
    | .tup l => (match l[i]? with
      | some u => ret u
      | none => RM.fail)
    | _ => RM.fail
  | .call c => callOpA P call r j c
  | _ => RM.fail
/-! ### regions -/
def wantedA (all : List Oper) (o : Oper) : RM Bool :=
  match o.guard with
  | none => RM.pure true
  | some (g, want) => match (all[g]?).bind (·.dst) with
    | none => RM.pure false
    | some t => do
      let v ← rd (.t t)
      match v with
      | .pv (.bool b) => RM.pure (b == want)
      | .tup _ => RM.pure false
      | _ => RM.fail
def stepA (call : Fs) (all : List Oper) (r j : Nat) (o : Oper) : RM Eff := do
  let w ← wantedA all o
  if w = true then opA P call r j o.op else ret (.tup [])
def app (s : St) (dst : Option Tmp) (e : Eff) : St :=
  match dst with
  | some d => upd (upds s e.wr) (.t d) e.v
  | none => upds s e.wr
def evOps (call : Fs) (all : List Oper) (r : Nat) : Nat → List Oper → St → Option St
  | _, [], s => some s
  | j, o :: os, s => match stepA P call all r j o s with
    | none => none
    | some (e, _) => evOps call all r (j + 1) os (app s o.dst e)
def wrote (dst : Option Tmp) (e : Eff) : List Loc :=
  e.wr.map (·.1) ++ (match dst with
    | some d => [.t d]
    | none => [])
def evOpsD (call : Fs) (all : List Oper) (r : Nat) : Nat → List Oper → St → Option (St × List (List Loc × List Loc))
  | _, [], s => some (s, [])
  | j, o :: os, s => match stepA P call all r j o s with
    | none => none
    | some (e, l) => match evOpsD call all r (j + 1) os (app s o.dst e) with
      | none => none
      | some (s', fs) => some (s', (l, wrote o.dst e) :: fs)
/-- which operations an operation waits for, straight or through others -/
def depsOf (acc : List (List Nat)) (o : Oper) : List Nat :=
  o.after.toList.flatMap fun e => if Region.binds .any e then e.on :: acc.getD e.on [] else []
def depsAll : List (List Nat) → List Oper → List (List Nat)
  | acc, [] => acc
  | acc, o :: os => depsAll (acc ++ [depsOf acc o]) os
def meets (a b : List Loc) : Bool := a.any fun x => b.contains x
def clash (x y : List Loc × List Loc) : Bool := meets x.2 y.1 || (meets x.2 y.2 || meets y.2 x.1)
/-- operation j against all before it -/
def okAt (deps : List Nat) (y : List Loc × List Loc) : Nat → List (List Loc × List Loc) → Bool
  | _, [] => true
  | i, x :: r => (deps.contains i || !clash x y) && okAt deps y (i + 1) r
def okFrom (deps : List (List Nat)) : List (List Loc × List Loc) → Nat → List (List Loc × List Loc) → Bool
  | _, _, [] => true
  | done, j, y :: r => okAt (deps.getD j []) y 0 done && okFrom deps (done ++ [y]) (j + 1) r
/-- every wait that binds is for an operation before -/
def backOk (ops : List Oper) : Bool :=
  (ops.zipIdx).all fun (o, i) => o.after.toList.all fun e => !Region.binds .any e || decide (e.on < i)
def noSel : Op → Bool
  | .select _ _ => false
  | _ => true
def okReg (ops : List Oper) (fs : List (List Loc × List Loc)) : Bool :=
  backOk ops && okFrom (depsAll [] ops) [] 0 fs
def evR (call : Fs) (r : Nat) (ops : List Oper) (draw : Bool) (s : St) : Option St :=
  if draw = true then
    match evOpsD P call ops r 0 ops s with
    | none => none
    | some (s', fs) => if okReg ops fs = true then some s' else none
  else evOps P call ops r 0 ops s
/-! ### code and functions -/
inductive Ex where
  | normal
  | exit (id : Nat)
  | ret
def evC (call : Fs) : Nat → Code → St → Option (Ex × St)
  | 0, _, _ => none
  | k + 1, c, s =>
    match c with
    | .skip => some (.normal, s)
    | .region r ops d => match evR P call r ops.toList d s with
      | some s' => some (.normal, s')
      | none => none
    | .seq a b => match evC call k a s with
      | some (.normal, s') => evC call k b s'
      | some (e, s') => some (e, s')
      | none => none
    | .cond c a b => match evO c s with
      | some (.pv (.bool t), _) => evC call k (if t = true then a else b) s
      | _ => none
    | .block id b => match evC call k b s with
      | some (.exit id', s') => if id' = id then some (.normal, s') else some (.exit id', s')
      | x => x
    | .loop b => match evC call k b s with
      | some (.normal, s') => evC call k (.loop b) s'
      | x => x
    | .exit id => some (.exit id, s)
    | .ret => some (.ret, s)
    | _ => none
def enterA (args bs : List AV) : St
  | .t n => args.getD n (.tup [])
  | .i (.arg j) => bs.getD j (.tup [])
  | .i _ => .tup []
def resA : List ResultVar → RM (List AV)
  | [] => RM.pure []
  | .tmp t :: r => do
    let v ← rd (.t t)
    let vs ← resA r
    RM.pure (v :: vs)
  | .cell a t :: r => do
    let p ← rd (.t a)
    let v ← loadA P t p
    let vs ← resA r
    RM.pure (v :: vs)
def isSite : Id → Bool
  | .site _ _ _ => true
  | _ => false
/-- the renaming at a return -/
def renOut (bs : List AV) (l : List Id) (es : List AV) : Ren
  | .arg j => match bs[j]? with
    | some b => some (.arg j, gen b, gen b)
    | none => none
  | x => match idx? l x with
    | some j => match es[j]? with
      | some e => some (.ret j, gen e, 1)
      | none => none
    | none => none
def argIds : Nat → Nat → List Id
  | 0, _ => []
  | n + 1, j => .arg j :: argIds n (j + 1)
def oneOf : List AV → AV
  | [x] => x
  | ws => .tup ws
def outA (own : Bool) (nb : Nat) (rs : List ResultVar) : RM (AV × List AV × List AV) := do
  let vs ← resA P rs
  let (ws, w) ← (if own = true then RM.pure (vs, []) else pubs vs)
  let bs ← entries w (argIds nb 0)
  let l0 := (dedup [] (idsL ws ++ idsL bs)).filter isSite
  let l ← reach w l0
  let l := l.filter isSite
  need (nodupB l)
  let es ← entries w l
  let m := renOut bs l es
  RM.pure (renV m (oneOf ws), renL m bs, (renL m es).map (setGen 1))
structure Cfg where
  ext : FuncId → Option Sm
  own : FuncId → Bool
def evF (cfg : Cfg) : Nat → Fs
  | 0, _, _, _ => none
  | k + 1, f, args, bs => match cfg.ext f with
    | some sm => sm args bs
    | none => match fnA P f with
      | none => none
      | some fn => match evC P (evF cfg k) k fn.code (enterA args bs) with
        | some (.normal, s) => (outA P (cfg.own f) bs.length fn.fn.results.toList s).map (·.1)
        | some (.ret, s) => (outA P (cfg.own f) bs.length fn.fn.results.toList s).map (·.1)
        | _ => none
end
end Go.Am
/-
More fuel does not change what the abstract machine answers.
-/
namespace Go.Am
open Go
def LeF (c c' : Fs) : Prop := ∀ g a b x, c g a b = some x → c' g a b = some x
theorem bind_eq {α β : Type} {m : RM α} {f : α → RM β} {s : St} {x : β × List Loc} (h : (m >>= f) s = some x) :
    ∃ a l b l', m s = some (a, l) ∧ f a s = some (b, l') ∧ x = (b, l ++ l') := by
  have h' : RM.bind m f s = some x := h
  unfold RM.bind at h'
  cases hm : m s with
  | none => rw [hm] at h'; cases h'
  | some q =>
    obtain ⟨a, l⟩ := q
    rw [hm] at h'
    simp only at h'
    cases hf : f a s with
    | none => rw [hf] at h'; cases h'
    | some q' =>
      obtain ⟨b, l'⟩ := q'
      rw [hf] at h'
      simp only [Option.some.injEq] at h'
      exact ⟨a, l, b, l', rfl, hf, h'.symm⟩
theorem bind_mk {α β : Type} {m : RM α} {f : α → RM β} {s : St} {a : α} {l l' : List Loc} {b : β}
    (hm : m s = some (a, l)) (hf : f a s = some (b, l')) : (m >>= f) s = some (b, l ++ l') := by
  show RM.bind m f s = _
  unfold RM.bind
  rw [hm]
  simp only
  rw [hf]
theorem bind_mono {α β : Type} {m : RM α} {f f' : α → RM β} {s : St} {x : β × List Loc}
    (hf : ∀ a y, f a s = some y → f' a s = some y) (h : (m >>= f) s = some x) : (m >>= f') s = some x := by
  obtain ⟨a, l, b, l', h1, h2, rfl⟩ := bind_eq h
  exact bind_mk h1 (hf _ _ h2)
variable {P : Program}
theorem callA_mono {sm sm' : Sm} (hs : ∀ a b x, sm a b = some x → sm' a b = some x) {r o : Nat} {vals : List AV} {s : St} {x : Eff × List Loc}
    (h : callA sm r o vals s = some x) : callA sm' r o vals s = some x := by
  unfold callA at h ⊢
  refine bind_mono (fun q y h => ?_) h
  refine bind_mono (fun q y h => ?_) h
  refine bind_mono (fun q y h => ?_) h
  refine bind_mono (fun q y h => ?_) h
  obtain ⟨a, l, b, l', h1, h2, rfl⟩ := bind_eq h
  refine bind_mk (a := a) (l := l) ?_ h2
  revert h1
  generalize ha : sm _ _ = ra
  intro h1
  cases ra with
  | none => cases h1
  | some q => rw [hs _ _ _ ha]; exact h1
theorem callOpA_mono {c c' : Fs} (hc : LeF c c') {r j : Nat} {k : Call} {s : St} {x : Eff × List Loc}
    (h : callOpA P c r j k s = some x) : callOpA P c' r j k s = some x := by
  obtain ⟨callee, args, ts⟩ := k
  cases callee with
  | builtin b => exact h
  | value f =>
    unfold callOpA at h ⊢
    refine bind_mono (fun q y h => ?_) h
    refine bind_mono (fun q' y h => ?_) h
    cases q with
    | fn g first cap => exact callA_mono (hc g) h
    | _ => exact h
  | invoke _ _ => exact h
theorem opA_mono {c c' : Fs} (hc : LeF c c') {r j : Nat} {o : Op} {s : St} {x : Eff × List Loc}
    (h : opA P c r j o s = some x) : opA P c' r j o s = some x := by
  cases o with
  | call k => exact callOpA_mono hc h
  | slice t x lo hi mx => cases mx <;> exact h
  | _ => exact h
theorem stepA_mono {c c' : Fs} (hc : LeF c c') {all : List Oper} {r j : Nat} {o : Oper} {s : St} {x : Eff × List Loc}
    (h : stepA P c all r j o s = some x) : stepA P c' all r j o s = some x := by
  unfold stepA at h ⊢
  refine bind_mono (fun q y h => ?_) h
  cases q
  · exact h
  · exact opA_mono hc h
theorem evOps_mono {c c' : Fs} (hc : LeF c c') {all : List Oper} {r : Nat} : ∀ (os : List Oper) (j : Nat) (s x : St),
    evOps P c all r j os s = some x → evOps P c' all r j os s = some x
  | [], _, _, _, h => h
  | o :: os, j, s, x, h => by
    unfold evOps at h ⊢
    cases hs : stepA P c all r j o s with
    | none => rw [hs] at h; cases h
    | some q =>
      rw [hs] at h
      rw [stepA_mono hc hs]
      exact evOps_mono hc os _ _ _ h
theorem evOpsD_mono {c c' : Fs} (hc : LeF c c') {all : List Oper} {r : Nat} : ∀ (os : List Oper) (j : Nat) (s : St) (x : St × List (List Loc × List Loc)),
    evOpsD P c all r j os s = some x → evOpsD P c' all r j os s = some x
  | [], _, _, _, h => h
  | o :: os, j, s, x, h => by
    unfold evOpsD at h ⊢
    cases hs : stepA P c all r j o s with
    | none => rw [hs] at h; cases h
    | some q =>
      rw [hs] at h
      rw [stepA_mono hc hs]
      simp only at h ⊢
      cases hr : evOpsD P c all r (j + 1) os (app s o.dst q.1) with
      | none => rw [hr] at h; cases h
      | some q' =>
        rw [hr] at h
        rw [evOpsD_mono hc os _ _ _ hr]
        exact h
theorem evR_mono {c c' : Fs} (hc : LeF c c') {r : Nat} {ops : List Oper} {d : Bool} {s x : St}
    (h : evR P c r ops d s = some x) : evR P c' r ops d s = some x := by
  unfold evR at h ⊢
  cases d
  · exact evOps_mono hc _ _ _ _ h
  · simp only [if_true] at h ⊢
    cases hr : evOpsD P c ops r 0 ops s with
    | none => rw [hr] at h; cases h
    | some q' =>
      rw [hr] at h
      rw [evOpsD_mono hc _ _ _ _ hr]
      exact h
theorem evC_mono {c c' : Fs} (hc : LeF c c') : ∀ {k k' : Nat}, k ≤ k' → ∀ (b : Code) (s : St) (x : Ex × St),
    evC P c k b s = some x → evC P c' k' b s = some x
  | 0, _, _, _, _, _, h => by cases h
  | k + 1, 0, hk, _, _, _, _ => by omega
  | k + 1, k' + 1, hk, b, s, x, h => by
    have ih := @evC_mono c c' hc k k' (by omega)
    cases b with
    | region r ops d =>
      unfold evC at h ⊢
      simp only at h ⊢
      cases hr : evR P c r ops.toList d s with
      | none => rw [hr] at h; cases h
      | some q => rw [hr] at h; rw [evR_mono hc hr]; exact h
    | seq a b =>
      unfold evC at h ⊢
      simp only at h ⊢
      cases ha : evC P c k a s with
      | none => rw [ha] at h; cases h
      | some q =>
        rw [ha] at h
        rw [ih _ _ _ ha]
        obtain ⟨e, s1⟩ := q
        cases e with
        | normal => exact ih _ _ _ h
        | _ => exact h
    | cond t a b =>
      unfold evC at h ⊢
      simp only at h ⊢
      cases ht : evO t s with
      | none => rw [ht] at h; cases h
      | some q =>
        rw [ht] at h
        obtain ⟨v, l⟩ := q
        cases v with
        | pv p =>
          cases p with
          | bool u => exact ih _ _ _ h
          | _ => cases h
        | _ => cases h
    | block id b =>
      unfold evC at h ⊢
      simp only at h ⊢
      cases ha : evC P c k b s with
      | none => rw [ha] at h; cases h
      | some q =>
        rw [ha] at h
        rw [ih _ _ _ ha]
        exact h
    | loop b =>
      unfold evC at h ⊢
      simp only at h ⊢
      cases ha : evC P c k b s with
      | none => rw [ha] at h; cases h
      | some q =>
        rw [ha] at h
        rw [ih _ _ _ ha]
        obtain ⟨e, s1⟩ := q
        cases e with
        | normal => exact ih _ _ _ h
        | _ => exact h
    | _ => exact h
theorem evF_mono (cfg : Cfg) : ∀ {k k' : Nat}, k ≤ k' → LeF (evF P cfg k) (evF P cfg k')
  | 0, _, _ => fun _ _ _ _ h => by cases h
  | k + 1, 0, hk => by omega
  | k + 1, k' + 1, hk => fun g a b x h => by
    have ih := @evF_mono cfg k k' (by omega)
    unfold evF at h ⊢
    cases he : cfg.ext g with
    | some sm => rw [he] at h; exact h
    | none =>
      rw [he] at h
      simp only at h ⊢
      cases hf : fnA P g with
      | none => rw [hf] at h; cases h
      | some fn =>
        rw [hf] at h
        simp only at h ⊢
        cases hc : evC P (evF P cfg k) k fn.code (enterA a b) with
        | none => rw [hc] at h; cases h
        | some q => rw [hc] at h; rw [evC_mono ih (by omega : k ≤ k') _ _ _ hc]; exact h
end Go.Am
/-
What an abstract value says of a value of the model, in a heap; and how it outlives changes of the heap.
-/
namespace Go.Am
open Go
abbrev Heap := Array Obj
def cellAt (h : Heap) (b off : Nat) : Option Value :=
  match h[b]? with
  | some (.cells c _ _) => c[off]?
  | _ => none
theorem cell?_eq (w : World) (b off : Nat) : w.cell? ⟨b, off, none⟩ = cellAt w.heap b off := by
  unfold World.cell? cellAt
  cases w.heap[b]? with
  | none => rfl
  | some o => cases o <;> simp
theorem cellAt_congr {h h' : Heap} {b : Nat} (e : h'[b]? = h[b]?) (off : Nat) : cellAt h' b off = cellAt h b off := by
  unfold cellAt; rw [e]
mutual
def RepP (h : Heap) (I : Nat → Prop) : PV → Value → Prop
  | .int k n, v => v = .int k n
  | .bool b, v => v = .bool b
  | .str l, v => v = .string ⟨l.toArray⟩
  | .sl n cs, v => ∃ a cap, v = .slice a n cap ∧ n ≤ cap ∧ (cs = [] ∨ ∃ b off, a = some ⟨b, off, none⟩ ∧ I b ∧ RepRow h I b off cs)
  | .nilif, v => v = .nilIface
  | .anyif, v => ∃ t x, v = .iface t x
  | .nilptr, v => v = .pointer none
  | .nilfn, v => v = .nilFunc
def RepRow (h : Heap) (I : Nat → Prop) (b : Nat) (off : Nat) : List PV → Prop
  | [] => True
  | p :: ps => (∃ v, cellAt h b off = some v ∧ RepP h I p v) ∧ RepRow h I b (off + 1) ps
end
abbrev Mu := Id → Option (Nat × Nat)
abbrev Gn := Id → Nat
mutual
def RepV (h : Heap) (I : Nat → Prop) (G : Gn) (μ : Mu) : AV → Value → Prop
  | .pv p, v => RepP h I p v
  | .nilsl, v => v = .slice none 0 0
  | .ptr id g off, v => g ≤ G id ∧ (∃ a : Addr, v = .pointer (some a)) ∧ (g = G id → ∃ b c, μ id = some (b, c) ∧ v = .pointer (some ⟨b, off, none⟩))
  | .osl id g n, v => g ≤ G id ∧ (∃ a m c, v = .slice a m c) ∧ (g = G id → ∃ b c, μ id = some (b, c) ∧ v = .slice (some ⟨b, 0, none⟩) n c ∧ n ≤ c)
  | .rptr cs off, v => ∃ b o, v = .pointer (some ⟨b, o + off, none⟩) ∧ I b ∧ RepRow h I b o cs
  | .fn f x y, v => ∃ u w, v = .func (.func f) u w ∧ RepL h I G μ x u.toList ∧ RepL h I G μ y w.toList
  | .agg l, v => ∃ u, v = .agg u ∧ RepL h I G μ l u.toList
  | .tup l, v => ∃ u, v = .tuple u ∧ RepL h I G μ l u.toList
  | .any, _ => True
  | .box _ _, _ => False
  | .row _ _ _ _, _ => False
def RepL (h : Heap) (I : Nat → Prop) (G : Gn) (μ : Mu) : List AV → List Value → Prop
  | [], [] => True
  | a :: as, v :: vs => RepV h I G μ a v ∧ RepL h I G μ as vs
  | _, _ => False
end
/-! ### monotony -/
/-- what may not change -/
structure Mono (h : Heap) (I : Nat → Prop) (h' : Heap) (I' : Nat → Prop) : Prop where
  imm : ∀ b, I b → I' b
  heap : ∀ b, I b → h'[b]? = h[b]?
structure MonoG (G : Gn) (μ : Mu) (G' : Gn) (μ' : Mu) : Prop where
  gen : ∀ id, G id ≤ G' id
  addr : ∀ id, G' id = G id → μ' id = μ id
mutual
theorem RepP.mono {h h' : Heap} {I I' : Nat → Prop} (M : Mono h I h' I') : ∀ (p : PV) (v : Value), RepP h I p v → RepP h' I' p v
  | .int _ _, _, r => r
  | .bool _, _, r => r
  | .str _, _, r => r
  | .sl n cs, v, r => by
    obtain ⟨a, cap, rfl, hc, r⟩ := r
    refine ⟨a, cap, rfl, hc, ?_⟩
    rcases r with r | ⟨b, off, rfl, hb, r⟩
    · exact .inl r
    · exact .inr ⟨b, off, rfl, M.imm b hb, RepRow.mono M b hb off cs r⟩
  | .nilif, _, r => r
  | .anyif, _, r => r
  | .nilptr, _, r => r
  | .nilfn, _, r => r
theorem RepRow.mono {h h' : Heap} {I I' : Nat → Prop} (M : Mono h I h' I') (b : Nat) (hb : I b) : ∀ (off : Nat) (cs : List PV), RepRow h I b off cs → RepRow h' I' b off cs
  | _, [], _ => trivial
  | off, p :: ps, r => by
    obtain ⟨⟨v, hv, hp⟩, r⟩ := r
    exact ⟨⟨v, by rw [cellAt_congr (M.heap b hb)]; exact hv, RepP.mono M p v hp⟩, RepRow.mono M b hb (off + 1) ps r⟩
end
mutual
theorem RepV.mono {h h' : Heap} {I I' : Nat → Prop} {G G' : Gn} {μ μ' : Mu} (M : Mono h I h' I') (N : MonoG G μ G' μ') : ∀ (a : AV) (v : Value), RepV h I G μ a v → RepV h' I' G' μ' a v
  | .pv p, v, r => RepP.mono M p v r
  | .nilsl, _, r => r
  | .ptr id g off, v, r => by
    obtain ⟨r1, r2, r3⟩ := r
    refine ⟨Nat.le_trans r1 (N.gen id), r2, fun e => ?_⟩
    have e1 : G id = G' id := Nat.le_antisymm (N.gen id) (e ▸ r1)
    rw [N.addr id e1.symm]
    exact r3 (by rw [e1]; exact e)
  | .osl id g n, v, r => by
    obtain ⟨r1, r2, r3⟩ := r
    refine ⟨Nat.le_trans r1 (N.gen id), r2, fun e => ?_⟩
    have e1 : G id = G' id := Nat.le_antisymm (N.gen id) (e ▸ r1)
    rw [N.addr id e1.symm]
    exact r3 (by rw [e1]; exact e)
  | .rptr cs off, v, r => by
    obtain ⟨b, o, rfl, hb, r⟩ := r
    exact ⟨b, o, rfl, M.imm b hb, RepRow.mono M b hb o cs r⟩
  | .fn f x y, v, r => by
    obtain ⟨u, w, rfl, r1, r2⟩ := r
    exact ⟨u, w, rfl, RepL.mono M N x _ r1, RepL.mono M N y _ r2⟩
  | .agg l, v, r => by
    obtain ⟨u, rfl, r⟩ := r
    exact ⟨u, rfl, RepL.mono M N l _ r⟩
  | .tup l, v, r => by
    obtain ⟨u, rfl, r⟩ := r
    exact ⟨u, rfl, RepL.mono M N l _ r⟩
  | .any, _, _ => trivial
  | .box _ _, _, r => r.elim
  | .row _ _ _ _, _, r => r.elim
theorem RepL.mono {h h' : Heap} {I I' : Nat → Prop} {G G' : Gn} {μ μ' : Mu} (M : Mono h I h' I') (N : MonoG G μ G' μ') : ∀ (l : List AV) (vs : List Value), RepL h I G μ l vs → RepL h' I' G' μ' l vs
  | [], [], _ => trivial
  | a :: as, v :: vs, r => ⟨RepV.mono M N a v r.1, RepL.mono M N as vs r.2⟩
  | [], _ :: _, r => r.elim
  | _ :: _, [], r => r.elim
end
/-! ### rows, by their cells -/
theorem RepRow.get {h : Heap} {I : Nat → Prop} {b : Nat} : ∀ {off : Nat} {cs : List PV}, RepRow h I b off cs → ∀ (j : Nat) p, cs[j]? = some p →
    ∃ v, cellAt h b (off + j) = some v ∧ RepP h I p v
  | _, [], _, _, _, e => by simp at e
  | off, q :: qs, r, 0, p, e => by
    simp only [List.getElem?_cons_zero, Option.some.injEq] at e
    subst e
    exact r.1
  | off, q :: qs, r, j + 1, p, e => by
    rw [List.getElem?_cons_succ] at e
    have := RepRow.get r.2 j p e
    rwa [Nat.add_assoc, Nat.add_comm 1 j] at this
theorem RepRow.of_get {h : Heap} {I : Nat → Prop} {b : Nat} : ∀ {off : Nat} {cs : List PV}, (∀ (j : Nat) p, cs[j]? = some p →
    ∃ v, cellAt h b (off + j) = some v ∧ RepP h I p v) → RepRow h I b off cs
  | _, [], _ => trivial
  | off, q :: qs, H => ⟨by have := H 0 q rfl; rwa [Nat.add_zero] at this, RepRow.of_get fun j p e => by
      have := H (j + 1) p (by rw [List.getElem?_cons_succ]; exact e)
      rwa [Nat.add_assoc, Nat.add_comm 1 j]⟩
theorem sub?_some {α : Type} {l r : List α} {off n : Nat} (h : sub? l off n = some r) : off + n ≤ l.length ∧ r = (l.drop off).take n := by
  unfold sub? at h
  split at h
  · exact ⟨‹_›, (Option.some.inj h).symm⟩
  · cases h
theorem sub?_length {α : Type} {l r : List α} {off n : Nat} (h : sub? l off n = some r) : r.length = n := by
  obtain ⟨h1, rfl⟩ := sub?_some h
  rw [List.length_take, List.length_drop]; omega
theorem sub?_get {α : Type} {l r : List α} {off n : Nat} (h : sub? l off n = some r) (j : Nat) (p : α) (e : r[j]? = some p) : j < n ∧ l[off + j]? = some p := by
  obtain ⟨h1, rfl⟩ := sub?_some h
  rw [List.getElem?_take] at e
  split at e
  · rw [List.getElem?_drop] at e
    exact ⟨‹_›, e⟩
  · cases e
theorem RepRow.sub {h : Heap} {I : Nat → Prop} {b off o n : Nat} {cs r : List PV} (H : RepRow h I b off cs) (e : sub? cs o n = some r) : RepRow h I b (off + o) r :=
  .of_get fun j p hj => by
    have := H.get (o + j) p (sub?_get e j p hj).2
    rwa [Nat.add_assoc]
theorem RepRow.take {h : Heap} {I : Nat → Prop} {b off n : Nat} {cs : List PV} (H : RepRow h I b off cs) : RepRow h I b off (cs.take n) :=
  .of_get fun j p hj => by
    rw [List.getElem?_take] at hj
    split at hj
    · exact H.get j p hj
    · cases hj
theorem RepL.length {h : Heap} {I : Nat → Prop} {G : Gn} {μ : Mu} : ∀ {l : List AV} {vs : List Value}, RepL h I G μ l vs → l.length = vs.length
  | [], [], _ => rfl
  | _ :: _, _ :: _, r => by simp [RepL.length r.2]
  | [], _ :: _, r => r.elim
  | _ :: _, [], r => r.elim
theorem RepL.get {h : Heap} {I : Nat → Prop} {G : Gn} {μ : Mu} : ∀ {l : List AV} {vs : List Value}, RepL h I G μ l vs → ∀ (j : Nat) a, l[j]? = some a →
    ∃ v, vs[j]? = some v ∧ RepV h I G μ a v
  | [], _, _, _, _, e => by simp at e
  | x :: xs, v :: vs, r, 0, a, e => by
    simp only [List.getElem?_cons_zero, Option.some.injEq] at e
    subst e
    exact ⟨v, rfl, r.1⟩
  | x :: xs, v :: vs, r, j + 1, a, e => by
    rw [List.getElem?_cons_succ] at e
    obtain ⟨u, h1, h2⟩ := RepL.get r.2 j a e
    exact ⟨u, by rw [List.getElem?_cons_succ]; exact h1, h2⟩
  | _ :: _, [], r, _, _, _ => r.elim
theorem RepL.get' {h : Heap} {I : Nat → Prop} {G : Gn} {μ : Mu} : ∀ {l : List AV} {vs : List Value}, RepL h I G μ l vs → ∀ (j : Nat) v, vs[j]? = some v →
    ∃ a, l[j]? = some a ∧ RepV h I G μ a v
  | _, [], _, _, _, e => by simp at e
  | x :: xs, v :: vs, r, 0, a, e => by
    simp only [List.getElem?_cons_zero, Option.some.injEq] at e
    subst e
    exact ⟨x, rfl, r.1⟩
  | x :: xs, v :: vs, r, j + 1, a, e => by
    rw [List.getElem?_cons_succ] at e
    obtain ⟨u, h1, h2⟩ := RepL.get' r.2 j a e
    exact ⟨u, by rw [List.getElem?_cons_succ]; exact h1, h2⟩
  | [], _ :: _, r, _, _, _ => r.elim
theorem RepL.of_get {h : Heap} {I : Nat → Prop} {G : Gn} {μ : Mu} : ∀ {l : List AV} {vs : List Value}, l.length = vs.length → (∀ (j : Nat) a v, l[j]? = some a → vs[j]? = some v → RepV h I G μ a v) → RepL h I G μ l vs
  | [], [], _, _ => trivial
  | x :: xs, v :: vs, e, H => ⟨H 0 x v rfl rfl, RepL.of_get (by simpa using e) fun j a u h1 h2 => H (j + 1) a u (by rw [List.getElem?_cons_succ]; exact h1) (by rw [List.getElem?_cons_succ]; exact h2)⟩
  | [], _ :: _, e, _ => by simp at e
  | _ :: _, [], e, _ => by simp at e
theorem RepL.append {h : Heap} {I : Nat → Prop} {G : Gn} {μ : Mu} : ∀ {l l' : List AV} {vs vs' : List Value}, RepL h I G μ l vs → RepL h I G μ l' vs' → RepL h I G μ (l ++ l') (vs ++ vs')
  | [], _, [], _, _, r => r
  | _ :: _, _, _ :: _, _, r, r' => ⟨r.1, RepL.append r.2 r'⟩
  | [], _, _ :: _, _, r, _ => r.elim
  | _ :: _, _, [], _, r, _ => r.elim
theorem RepL.sub {h : Heap} {I : Nat → Prop} {G : Gn} {μ : Mu} {l r : List AV} {vs : List Value} {off n : Nat} (H : RepL h I G μ l vs) (e : sub? l off n = some r) :
    RepL h I G μ r ((vs.drop off).take n) := by
  obtain ⟨h1, rfl⟩ := sub?_some e
  have hl := H.length
  refine .of_get (by simp; omega) fun j a v ha hv => ?_
  rw [List.getElem?_take] at ha hv
  split at ha
  · rename_i hj
    simp only [hj, if_true] at hv
    rw [List.getElem?_drop] at ha hv
    obtain ⟨u, h2, h3⟩ := H.get _ _ ha
    rw [h2] at hv
    cases hv
    exact h3
  · cases ha
/-- pure cells -/
theorem RepL.of_row {h : Heap} {I : Nat → Prop} {G : Gn} {μ : Mu} {b : Nat} : ∀ {off : Nat} {cs : List PV} {vs : List Value}, RepRow h I b off cs → vs.length = cs.length →
    (∀ j, j < cs.length → cellAt h b (off + j) = vs[j]?) → RepL h I G μ (cs.map .pv) vs
  | _, [], [], _, _, _ => trivial
  | off, p :: ps, v :: vs, r, e, H => by
    refine ⟨?_, RepL.of_row (off := off + 1) r.2 (by simpa using e) fun j hj => ?_⟩
    · obtain ⟨⟨u, h1, h2⟩, _⟩ := r
      have := H 0 (by simp)
      rw [Nat.add_zero, h1] at this
      cases this
      exact h2
    · have := H (j + 1) (by simp; omega)
      rw [Nat.add_assoc, Nat.add_comm 1 j, this, List.getElem?_cons_succ]
  | _, [], _ :: _, _, e, _ => by simp at e
  | _, _ :: _, [], _, e, _ => by simp at e
/-- a value that may lie in a cell -/
theorem RepP.oneCell {h : Heap} {I : Nat → Prop} {p : PV} {v : Value} (r : RepP h I p v) : v.oneCell' = true ∧ v.cells = #[v] := by
  cases p with
  | int k n => cases r; exact ⟨rfl, rfl⟩
  | bool b => cases r; exact ⟨rfl, rfl⟩
  | str l => cases r; exact ⟨rfl, rfl⟩
  | sl n cs => obtain ⟨a, c, rfl, _⟩ := r; exact ⟨rfl, rfl⟩
  | nilif => cases r; exact ⟨rfl, rfl⟩
  | anyif => obtain ⟨t, x, rfl⟩ := r; exact ⟨rfl, rfl⟩
  | nilptr => cases r; exact ⟨rfl, rfl⟩
  | nilfn => cases r; exact ⟨rfl, rfl⟩
theorem RepV.oneCell {h : Heap} {I : Nat → Prop} {G : Gn} {μ : Mu} {a : AV} {v : Value} (c : isCell a = true) (r : RepV h I G μ a v) : v.oneCell' = true ∧ v.cells = #[v] := by
  cases a with
  | pv p => exact RepP.oneCell r
  | nilsl => cases r; exact ⟨rfl, rfl⟩
  | ptr id g o => obtain ⟨_, ⟨a, rfl⟩, _⟩ := r; exact ⟨rfl, rfl⟩
  | osl id g n => obtain ⟨_, ⟨a, m, c, rfl⟩, _⟩ := r; exact ⟨rfl, rfl⟩
  | rptr cs o => obtain ⟨b, o', rfl, _⟩ := r; exact ⟨rfl, rfl⟩
  | fn f x y => obtain ⟨u, w, rfl, _⟩ := r; exact ⟨rfl, rfl⟩
  | agg l => cases c
  | tup l => cases c
  | any => cases c
  | box g l => cases c
  | row g s p l => cases c
/-- the cells of a value -/
theorem RepV.flat {h : Heap} {I : Nat → Prop} {G : Gn} {μ : Mu} {a : AV} {v : Value} (c : (flat a).all isCell = true) (r : RepV h I G μ a v) : RepL h I G μ (Am.flat a) v.cells.toList ∧ ∀ u ∈ v.cells.toList, u.oneCell' = true := by
  have one : isCell a = true → Am.flat a = [a] → RepL h I G μ (Am.flat a) v.cells.toList ∧ ∀ u ∈ v.cells.toList, u.oneCell' = true := fun hc he => by
    obtain ⟨h1, h2⟩ := r.oneCell hc
    rw [he, h2]
    exact ⟨⟨r, trivial⟩, fun u hu => by simp at hu; rw [hu]; exact h1⟩
  cases a with
  | agg l =>
    obtain ⟨u, rfl, r⟩ := r
    refine ⟨r, fun x hx => ?_⟩
    obtain ⟨j, hj⟩ := List.mem_iff_getElem?.1 hx
    obtain ⟨a, h1, h2⟩ := r.get' j x hj
    exact (h2.oneCell (List.all_eq_true.1 c a (List.mem_of_getElem? h1))).1
  | pv p => exact one rfl rfl
  | nilsl => exact one rfl rfl
  | ptr id g o => exact one rfl rfl
  | osl id g n => exact one rfl rfl
  | rptr cs o => exact one rfl rfl
  | fn f x y => exact one rfl rfl
  | tup l => simp [Am.flat, isCell] at c
  | any => simp [Am.flat, isCell] at c
  | box g l => simp [Am.flat, isCell] at c
  | row g s p l => simp [Am.flat, isCell] at c
end Go.Am
/-
Tables and sentinels of Go's library that are never written: which blocks they are, and what they hold.
-/
namespace Go.Am
open Go
def tabN : Option Nat := some 3
def errS : Option Nat := some 1
def errR : Option Nat := some 2
def bruN : Option Nat := some 5
/-- a block that is kept -/
def isTab (g : Nat) : Prop := tabN = some g ∨ ((errS = some g ∨ errR = some g) ∨ bruN = some g)
def bruL : List Int := [0, 1, 56, 2, 57, 49, 28, 3, 61, 58, 42, 50, 38, 29, 17, 4, 62, 47, 59, 36, 45, 43, 51, 22, 53, 39, 33, 30, 24, 18, 12, 5, 63, 55, 48, 27, 60, 41, 37, 16, 46, 35, 44, 21, 52, 32, 23, 11, 54, 26, 40, 15, 34, 20, 31, 10, 25, 14, 19, 9, 13, 8, 7, 6]
def bruV : Array Value := (bruL.map fun z => Value.int .u8 z).toArray
def tabV : Array Value := (Lib.pow10Tab.map fun z => Value.int .u64 z).toArray
/-- what it holds -/
def okT (g : Nat) (cs : Array Value) : Prop := (tabN = some g → cs = tabV) ∧ (((errS = some g ∨ errR = some g) → ∃ t p, cs = #[.iface t p]) ∧ (bruN = some g → cs = bruV))
/-- the kept blocks are not among the blocks that are written (M), and hold what they held -/
def Tabs (h : Heap) (M : Nat → Prop) : Prop := ∀ g, isTab g → ¬M g ∧ ∃ cs e r, h[g]? = some (.cells cs e r) ∧ okT g cs
theorem Tabs.next {h h' : Heap} {M M' : Nat → Prop} (T : Tabs h M) (k : ∀ b, b < h.size → ¬M b → h'[b]? = h[b]?) (m : ∀ b, M' b → M b ∨ h.size ≤ b) : Tabs h' M' := fun g hg => by
  obtain ⟨h1, cs, e, r, h2, h3⟩ := T g hg
  have hlt := (Array.getElem?_eq_some_iff.1 h2).1
  refine ⟨fun hm => ?_, cs, e, r, by rw [k g hlt h1]; exact h2, h3⟩
  rcases m g hm with hm | hm
  · exact h1 hm
  · omega
theorem Tabs.same {h : Heap} {M M' : Nat → Prop} (T : Tabs h M) (m : ∀ b, M' b → M b) : Tabs h M' := T.next (fun _ _ _ => rfl) fun b hb => .inl (m b hb)
/-- what the contract of a reader asks -/
theorem Tabs.tabIs {P : Program} {w : World} {M : Nat → Prop} {name : String} {g : Nat} (T : Tabs w.heap M) (hg : P.globalNamed name = some g) (ht : tabN = some g) : Lib.TabIs P w name .u64 Lib.pow10Tab := by
  obtain ⟨_, cs, e, r, h, ok⟩ := T g (.inl ht)
  unfold Lib.TabIs World.var?
  rw [hg]
  simp only [Option.bind_some, h]
  rw [ok.1 ht]
  rfl
theorem Tabs.errVar {P : Program} {w : World} {M : Nat → Prop} {name : String} {g : Nat} (T : Tabs w.heap M) (hg : P.globalNamed name = some g) (ht : errS = some g ∨ errR = some g) : ∃ t p, w.var? P name = some #[.iface t p] := by
  obtain ⟨_, cs, e, r, h, ok⟩ := T g (.inr (.inl ht))
  obtain ⟨t, p, e2⟩ := ok.2.1 ht
  refine ⟨t, p, ?_⟩
  unfold World.var?
  rw [hg]
  simp only [Option.bind_some, h]
  rw [e2]
theorem Tabs.bru {w : World} {M : Nat → Prop} {g : Nat} (T : Tabs w.heap M) (ht : bruN = some g) (i : Nat) (hi : i < bruL.length) : w.cell? ⟨g, i, none⟩ = some (.int .u8 (bruL.getD i 0)) := by
  obtain ⟨_, cs, e, r, h, ok⟩ := T g (.inr (.inr ht))
  have := ok.2.2 ht
  subst this
  unfold World.cell?
  rw [h]
  simp [bruV, List.getD, hi]
/-- what the row's condition gives -/
theorem tab_start {P : Program} {w : World} {name : String} {g : Nat} (hg : P.globalNamed name = some g) (h : Lib.TabIs P w name .u64 Lib.pow10Tab) (hn : ¬(errS = some g ∨ errR = some g)) (hb : bruN ≠ some g) : ∃ cs e r, w.heap[g]? = some (.cells cs e r) ∧ okT g cs := by
  unfold Lib.TabIs World.var? at h
  rw [hg] at h
  simp only [Option.bind_some] at h
  split at h
  · rename_i cs e r hh
    cases h
    exact ⟨_, e, r, hh, fun _ => rfl, fun h => absurd h hn, fun h => absurd h hb⟩
  · cases h
theorem err_start {P : Program} {w : World} {name : String} {g : Nat} (hg : P.globalNamed name = some g) {t : TypeId} {p : Value} (h : w.var? P name = some #[.iface t p]) (hn : tabN ≠ some g) (hb : bruN ≠ some g) : ∃ cs e r, w.heap[g]? = some (.cells cs e r) ∧ okT g cs := by
  unfold World.var? at h
  rw [hg] at h
  simp only [Option.bind_some] at h
  split at h
  · rename_i cs e r hh
    cases h
    exact ⟨_, e, r, hh, fun h => absurd h hn, fun _ => ⟨t, p, rfl⟩, fun h => absurd h hb⟩
  · cases h
theorem bru_start {P : Program} {w : World} {name : String} {g : Nat} (hg : P.globalNamed name = some g) (h : Lib.TabIs P w name .u8 bruL) (ht : tabN ≠ some g) (hn : ¬(errS = some g ∨ errR = some g)) : ∃ cs e r, w.heap[g]? = some (.cells cs e r) ∧ okT g cs := by
  unfold Lib.TabIs World.var? at h
  rw [hg] at h
  simp only [Option.bind_some] at h
  split at h
  · rename_i cs e r hh
    cases h
    exact ⟨_, e, r, hh, fun h => absurd h ht, fun h => absurd h hn, fun _ => rfl⟩
  · cases h
end Go.Am
/-
The relation between an abstract state and a heap, and how it goes on when a block is made, written or given up for reading.
-/
namespace Go.Am
open Go
def isMut : AV → Bool
  | .box _ _ => true
  | .row _ _ false _ => true
  | _ => false
abbrev Gs (s : St) : Gn := fun id => gen (s (.i id))
def MutB (μ : Mu) (s : St) (b : Nat) : Prop := ∃ id c, μ id = some (b, c) ∧ isMut (s (.i id)) = true
def Imm (h : Heap) (F : Nat → Prop) (μ : Mu) (s : St) (b : Nat) : Prop := b < h.size ∧ ¬F b ∧ ¬MutB μ s b
/-- what an entry says -/
def EntOk (h : Heap) (F : Nat → Prop) (I : Nat → Prop) (G : Gn) (μ : Mu) (a : Option (Nat × Nat)) : AV → Prop
  | .box _ cs => ∃ b c arr e, a = some (b, c) ∧ h[b]? = some (.cells arr e (0, 0)) ∧ RepL h I G μ cs arr.toList ∧ ¬F b
  | .row _ sz false cs => ∃ b c arr e, a = some (b, c) ∧ h[b]? = some (.cells arr e (0, 0)) ∧ arr.size = c * sz ∧ cs.length ≤ c * sz ∧
      (∀ (j : Nat) p, cs[j]? = some p → ∃ v, arr[j]? = some v ∧ RepP h I p v) ∧ ¬F b
  | .row _ _ true cs => ∃ b c, a = some (b, c) ∧ I b ∧ RepRow h I b 0 cs
  | _ => True
structure SRel (h : Heap) (F : Nat → Prop) (μ : Mu) (s : St) : Prop where
  low : ∀ b, F b → b < h.size
  ent : ∀ id, EntOk h F (Imm h F μ s) (Gs s) μ (μ id) (s (.i id))
  inj : ∀ id id' b c c', μ id = some (b, c) → μ id' = some (b, c') → isMut (s (.i id)) = true → isMut (s (.i id')) = true → id = id'
  tab : Tabs h (MutB μ s)
/-- from one state to a later one -/
structure Tr (h : Heap) (μ : Mu) (s : St) (h' : Heap) (μ' : Mu) (s' : St) : Prop where
  size : h.size ≤ h'.size
  keep : ∀ b, b < h.size → ¬MutB μ s b → h'[b]? = h[b]?
  mt : ∀ b, MutB μ' s' b → MutB μ s b ∨ h.size ≤ b
  gen : ∀ id, Gs s id ≤ Gs s' id
  addr : ∀ id, Gs s' id = Gs s id → μ' id = μ id
theorem Tr.refl (h : Heap) (μ : Mu) (s : St) : Tr h μ s h μ s :=
  ⟨Nat.le_refl _, fun _ _ _ => rfl, fun _ h => .inl h, fun _ => Nat.le_refl _, fun _ _ => rfl⟩
theorem Tr.trans {h h1 h2 : Heap} {μ μ1 μ2 : Mu} {s s1 s2 : St} (T : Tr h μ s h1 μ1 s1) (U : Tr h1 μ1 s1 h2 μ2 s2) : Tr h μ s h2 μ2 s2 where
  size := Nat.le_trans T.size U.size
  keep b hb hm := by
    rw [U.keep b (Nat.lt_of_lt_of_le hb T.size) (fun m => by
      rcases T.mt b m with m | m
      · exact hm m
      · omega), T.keep b hb hm]
  mt b m := by
    rcases U.mt b m with m | m
    · exact T.mt b m
    · exact .inr (Nat.le_trans T.size m)
  gen id := Nat.le_trans (T.gen id) (U.gen id)
  addr id e := by
    have h1 := T.gen id
    have h2 := U.gen id
    rw [U.addr id (by omega), T.addr id (by omega)]
theorem Tr.imm {h h' : Heap} {F : Nat → Prop} {μ μ' : Mu} {s s' : St} (T : Tr h μ s h' μ' s') (b : Nat) (hb : Imm h F μ s b) : Imm h' F μ' s' b := by
  obtain ⟨h1, h2, h3⟩ := hb
  refine ⟨Nat.lt_of_lt_of_le h1 T.size, h2, fun m => ?_⟩
  rcases T.mt b m with m | m
  · exact h3 m
  · omega
theorem Tr.mono {h h' : Heap} (F : Nat → Prop) {μ μ' : Mu} {s s' : St} (T : Tr h μ s h' μ' s') : Mono h (Imm h F μ s) h' (Imm h' F μ' s') :=
  ⟨fun b hb => T.imm b hb, fun b hb => T.keep b hb.1 hb.2.2⟩
theorem Tr.monoG {h h' : Heap} {μ μ' : Mu} {s s' : St} (T : Tr h μ s h' μ' s') : MonoG (Gs s) μ (Gs s') μ' := ⟨T.gen, T.addr⟩
/-- an entry that nobody touches -/
theorem EntOk.mono {h h' : Heap} {F : Nat → Prop} {μ μ' : Mu} {s s' : St} (T : Tr h μ s h' μ' s') {a : Option (Nat × Nat)} {e : AV}
    (hk : ∀ b c, a = some (b, c) → isMut e = true → h'[b]? = h[b]?) (H : EntOk h F (Imm h F μ s) (Gs s) μ a e) : EntOk h' F (Imm h' F μ' s') (Gs s') μ' a e := by
  cases e with
  | box g cs =>
    obtain ⟨b, c, arr, e, rfl, h1, h2, h3⟩ := H
    exact ⟨b, c, arr, e, rfl, by rw [hk b c rfl rfl]; exact h1, RepL.mono (T.mono F) T.monoG cs _ h2, h3⟩
  | row g sz p cs =>
    cases p with
    | false =>
      obtain ⟨b, c, arr, e, rfl, h1, h2, h3, h4, h5⟩ := H
      exact ⟨b, c, arr, e, rfl, by rw [hk b c rfl rfl]; exact h1, h2, h3, fun j p hj => by
        obtain ⟨v, hv, hp⟩ := h4 j p hj
        exact ⟨v, hv, RepP.mono (T.mono F) p v hp⟩, h5⟩
    | true =>
      obtain ⟨b, c, rfl, h1, h2⟩ := H
      exact ⟨b, c, rfl, T.imm b h1, RepRow.mono (T.mono F) b h1 0 cs h2⟩
  | _ => trivial
theorem SRel.blk {h : Heap} {F : Nat → Prop} {μ : Mu} {s : St} (S : SRel h F μ s) {id : Id} (hm : isMut (s (.i id)) = true) :
    ∃ b c arr e, μ id = some (b, c) ∧ h[b]? = some (.cells arr e (0, 0)) ∧ ¬F b := by
  have := S.ent id
  cases he : s (.i id) with
  | box g cs =>
    rw [he] at this
    obtain ⟨b, c, arr, e, h1, h2, _, h3⟩ := this
    exact ⟨b, c, arr, e, h1, h2, h3⟩
  | row g sz p cs =>
    rw [he] at this hm
    cases p with
    | false =>
      obtain ⟨b, c, arr, e, h1, h2, _, _, _, h3⟩ := this
      exact ⟨b, c, arr, e, h1, h2, h3⟩
    | true => cases hm
  | _ => rw [he] at hm; cases hm
theorem SRel.tabTr {h h' : Heap} {F : Nat → Prop} {μ μ' : Mu} {s s' : St} (S : SRel h F μ s) (T : Tr h μ s h' μ' s') : Tabs h' (MutB μ' s') := S.tab.next T.keep T.mt
theorem SRel.lt {h : Heap} {F : Nat → Prop} {μ : Mu} {s : St} (S : SRel h F μ s) {id : Id} {b c : Nat} (hm : isMut (s (.i id)) = true) (he : μ id = some (b, c)) : b < h.size := by
  obtain ⟨b', c', arr, e, h1, h2, _⟩ := S.blk hm
  rw [he] at h1
  cases h1
  exact (Array.getElem?_eq_some_iff.1 h2).1
/-- one entry is changed -/
theorem SRel.step {h h' : Heap} {F : Nat → Prop} {μ μ' : Mu} {s s' : St} (S : SRel h F μ s) (T : Tr h μ s h' μ' s') (id0 : Id)
    (hold : ∀ id, id ≠ id0 → s' (.i id) = s (.i id) ∧ μ' id = μ id)
    (hblk : ∀ id b c, id ≠ id0 → μ id = some (b, c) → isMut (s (.i id)) = true → h'[b]? = h[b]?)
    (hnew : EntOk h' F (Imm h' F μ' s') (Gs s') μ' (μ' id0) (s' (.i id0)))
    (hinj : ∀ id b c c', id ≠ id0 → μ id = some (b, c) → isMut (s (.i id)) = true → μ' id0 = some (b, c') → isMut (s' (.i id0)) = true → False) : SRel h' F μ' s' where
  low b hb := Nat.lt_of_lt_of_le (S.low b hb) T.size
  ent id := by
    by_cases hi : id = id0
    · subst hi; exact hnew
    · obtain ⟨h1, h2⟩ := hold id hi
      rw [h1, h2]
      exact (S.ent id).mono T (fun b c e m => hblk id b c hi e m)
  inj id id' b c c' e e' m m' := by
    by_cases hi : id = id0
    · by_cases hj : id' = id0
      · rw [hi, hj]
      · subst hi
        obtain ⟨h1, h2⟩ := hold id' hj
        rw [h1] at m'
        rw [h2] at e'
        exact (hinj id' b c' c hj e' m' e m).elim
    · obtain ⟨h1, h2⟩ := hold id hi
      rw [h1] at m
      rw [h2] at e
      by_cases hj : id' = id0
      · subst hj
        exact (hinj id b c c' hi e m e' m').elim
      · obtain ⟨h3, h4⟩ := hold id' hj
        rw [h3] at m'
        rw [h4] at e'
        exact S.inj id id' b c c' e e' m m'
  tab := S.tabTr T
theorem upd_self (s : St) (x : Loc) (v : AV) : upd s x v x = v := if_pos rfl
theorem upd_ne (s : St) {x y : Loc} (v : AV) (h : y ≠ x) : upd s x v y = s y := if_neg h
theorem upd_i_ne (s : St) {id id' : Id} (v : AV) (h : id' ≠ id) : upd s (.i id) v (.i id') = s (.i id') := upd_ne s v fun e => h (by injection e)
theorem upd_i_t (s : St) (id : Id) (v : AV) (t : Nat) : upd s (.i id) v (.t t) = s (.t t) := upd_ne s v fun e => by cases e
theorem upd_t_i (s : St) (id : Id) (v : AV) (t : Nat) : upd s (.t t) v (.i id) = s (.i id) := upd_ne s v fun e => by cases e
def setMu (μ : Mu) (id : Id) (a : Nat × Nat) : Mu := fun x => if x = id then some a else μ x
theorem setMu_self (μ : Mu) (id : Id) (a : Nat × Nat) : setMu μ id a id = some a := if_pos rfl
theorem setMu_ne (μ : Mu) {id id' : Id} (a : Nat × Nat) (h : id' ≠ id) : setMu μ id a id' = μ id' := if_neg h
/-- a new block: the transition -/
theorem tr_new {h : Heap} {μ : Mu} (s : St) {o : Obj} {id : Id} {ent : AV} {c : Nat} (hg : gen (s (.i id)) < gen ent) :
    Tr h μ s (h.push o) (setMu μ id (h.size, c)) (upd s (.i id) ent) where
  size := by simp
  keep b hb _ := by rw [Array.getElem?_push]; simp [Nat.ne_of_lt hb]
  mt b m := by
    obtain ⟨id', c', e, m⟩ := m
    by_cases hi : id' = id
    · subst hi
      rw [setMu_self] at e
      cases e
      exact .inr (Nat.le_refl _)
    · rw [setMu_ne _ _ hi] at e
      rw [upd_i_ne _ _ hi] at m
      exact .inl ⟨id', c', e, m⟩
  gen id' := by
    by_cases hi : id' = id
    · subst hi; simp only [Gs, upd_self]; omega
    · simp only [Gs, upd_i_ne _ _ hi]; exact Nat.le_refl _
  addr id' e := by
    by_cases hi : id' = id
    · subst hi; simp only [Gs, upd_self] at e; omega
    · exact setMu_ne _ _ hi
theorem srel_new {h : Heap} {F : Nat → Prop} {μ : Mu} {s : St} (S : SRel h F μ s) {o : Obj} {id : Id} {ent : AV} {c : Nat} (hg : gen (s (.i id)) < gen ent)
    (hnew : EntOk (h.push o) F (Imm (h.push o) F (setMu μ id (h.size, c)) (upd s (.i id) ent)) (Gs (upd s (.i id) ent)) (setMu μ id (h.size, c)) (some (h.size, c)) ent) :
    SRel (h.push o) F (setMu μ id (h.size, c)) (upd s (.i id) ent) := by
  refine S.step (tr_new s hg) id (fun id' hi => ⟨upd_i_ne _ _ hi, setMu_ne _ _ hi⟩) (fun id' b c' hi e m => ?_) (by rw [setMu_self, upd_self]; exact hnew)
    (fun id' b c' c'' hi e m e' _ => ?_)
  · have := S.lt m e
    rw [Array.getElem?_push]; simp [Nat.ne_of_lt this]
  · have := S.lt m e
    rw [setMu_self] at e'
    cases e'
    omega
/-- a write into a block of one's own -/
theorem tr_write {h h' : Heap} {μ : Mu} {s : St} {id : Id} {ent : AV} {b c : Nat} (hb : μ id = some (b, c)) (hm : isMut (s (.i id)) = true) (hs : h'.size = h.size)
    (hk : ∀ k, k ≠ b → h'[k]? = h[k]?) (hg : gen (s (.i id)) ≤ gen ent) : Tr h μ s h' μ (upd s (.i id) ent) where
  size := Nat.le_of_eq hs.symm
  keep k _ hn := hk k fun e => hn (e ▸ ⟨id, c, hb, hm⟩)
  mt k m := by
    obtain ⟨id', c', e, m⟩ := m
    by_cases hi : id' = id
    · subst hi
      rw [hb] at e
      cases e
      exact .inl ⟨id', c, hb, hm⟩
    · rw [upd_i_ne _ _ hi] at m
      exact .inl ⟨id', c', e, m⟩
  gen id' := by
    by_cases hi : id' = id
    · subst hi; simp only [Gs, upd_self]; exact hg
    · simp only [Gs, upd_i_ne _ _ hi]; exact Nat.le_refl _
  addr _ _ := rfl
theorem srel_write {h h' : Heap} {F : Nat → Prop} {μ : Mu} {s : St} (S : SRel h F μ s) {id : Id} {ent : AV} {b c : Nat} (hb : μ id = some (b, c)) (hm : isMut (s (.i id)) = true) (hs : h'.size = h.size)
    (hk : ∀ k, k ≠ b → h'[k]? = h[k]?) (hg : gen (s (.i id)) ≤ gen ent)
    (hnew : EntOk h' F (Imm h' F μ (upd s (.i id) ent)) (Gs (upd s (.i id) ent)) μ (some (b, c)) ent) : SRel h' F μ (upd s (.i id) ent) := by
  refine S.step (tr_write hb hm hs hk hg) id (fun id' hi => ⟨upd_i_ne _ _ hi, rfl⟩) (fun id' b' c' hi e m => hk b' fun e' => hi ?_) (by rw [hb, upd_self]; exact hnew)
    (fun id' b' c' c'' hi e m e' _ => hi ?_)
  · subst e'
    exact S.inj id' id _ _ _ e hb m hm
  · rw [hb] at e'
    cases e'
    exact S.inj id' id _ _ _ e hb m hm
/-- a row is given up for reading -/
theorem tr_pub {h : Heap} {μ : Mu} {s : St} {id : Id} {g sz : Nat} {p : Bool} {cs : List PV} (he : s (.i id) = .row g sz p cs) :
    Tr h μ s h μ (upd s (.i id) (.row g sz true cs)) where
  size := Nat.le_refl _
  keep _ _ _ := rfl
  mt k m := by
    obtain ⟨id', c', e, m⟩ := m
    by_cases hi : id' = id
    · subst hi
      rw [upd_self] at m
      cases m
    · rw [upd_i_ne _ _ hi] at m
      exact .inl ⟨id', c', e, m⟩
  gen id' := by
    by_cases hi : id' = id
    · subst hi; simp only [Gs, upd_self, he]; exact Nat.le_refl _
    · simp only [Gs, upd_i_ne _ _ hi]; exact Nat.le_refl _
  addr _ _ := rfl
theorem srel_pub {h : Heap} {F : Nat → Prop} {μ : Mu} {s : St} (S : SRel h F μ s) {id : Id} {g sz : Nat} {p : Bool} {cs : List PV} (he : s (.i id) = .row g sz p cs) :
    SRel h F μ (upd s (.i id) (.row g sz true cs)) ∧ ∃ b c, μ id = some (b, c) ∧ Imm h F μ (upd s (.i id) (.row g sz true cs)) b ∧ RepRow h (Imm h F μ (upd s (.i id) (.row g sz true cs))) b 0 cs := by
  have T := tr_pub (h := h) (μ := μ) he
  have key : ∃ b c, μ id = some (b, c) ∧ Imm h F μ (upd s (.i id) (.row g sz true cs)) b ∧ RepRow h (Imm h F μ (upd s (.i id) (.row g sz true cs))) b 0 cs := by
    have H := S.ent id
    rw [he] at H
    cases p with
    | false =>
      obtain ⟨b, c, arr, e, h1, h2, h3, h4, h5, h6⟩ := H
      have hI : Imm h F μ (upd s (.i id) (.row g sz true cs)) b := by
        refine ⟨(Array.getElem?_eq_some_iff.1 h2).1, h6, fun m => ?_⟩
        obtain ⟨id', c', e', m⟩ := m
        by_cases hi : id' = id
        · subst hi; rw [upd_self] at m; cases m
        · rw [upd_i_ne _ _ hi] at m
          exact hi (S.inj id' id _ _ _ e' h1 m (by rw [he]; rfl))
      refine ⟨b, c, h1, hI, .of_get fun j q hj => ?_⟩
      obtain ⟨v, hv, hp⟩ := h5 j q hj
      exact ⟨v, by simp only [cellAt, h2, Nat.zero_add]; exact hv, RepP.mono (T.mono F) q v hp⟩
    | true =>
      obtain ⟨b, c, h1, h2, h3⟩ := H
      exact ⟨b, c, h1, T.imm b h2, RepRow.mono (T.mono F) b h2 0 cs h3⟩
  refine ⟨S.step T id (fun id' hi => ⟨upd_i_ne _ _ hi, rfl⟩) (fun _ _ _ _ _ _ => rfl) ?_ (fun id' b c c' hi e m e' m' => ?_), key⟩
  · rw [upd_self]
    exact key
  · rw [upd_self] at m'; cases m'
/-- a variable is given up for reading, as a row -/
theorem tr_pubbox {h : Heap} {μ : Mu} {s : St} {id : Id} {g : Nat} {cs : List AV} {ps : List PV} (he : s (.i id) = .box g cs) :
    Tr h μ s h μ (upd s (.i id) (.row g 1 true ps)) where
  size := Nat.le_refl _
  keep _ _ _ := rfl
  mt k m := by
    obtain ⟨id', c', e, m⟩ := m
    by_cases hi : id' = id
    · subst hi
      rw [upd_self] at m
      cases m
    · rw [upd_i_ne _ _ hi] at m
      exact .inl ⟨id', c', e, m⟩
  gen id' := by
    by_cases hi : id' = id
    · subst hi; simp only [Gs, upd_self, he]; exact Nat.le_refl _
    · simp only [Gs, upd_i_ne _ _ hi]; exact Nat.le_refl _
  addr _ _ := rfl
theorem srel_pubbox {h : Heap} {F : Nat → Prop} {μ : Mu} {s : St} (S : SRel h F μ s) {id : Id} {g : Nat} {ps : List PV} (he : s (.i id) = .box g (ps.map .pv)) :
    SRel h F μ (upd s (.i id) (.row g 1 true ps)) ∧ ∃ b c, μ id = some (b, c) ∧ Imm h F μ (upd s (.i id) (.row g 1 true ps)) b ∧ RepRow h (Imm h F μ (upd s (.i id) (.row g 1 true ps))) b 0 ps := by
  have T := tr_pubbox (h := h) (μ := μ) (ps := ps) he
  have key : ∃ b c, μ id = some (b, c) ∧ Imm h F μ (upd s (.i id) (.row g 1 true ps)) b ∧ RepRow h (Imm h F μ (upd s (.i id) (.row g 1 true ps))) b 0 ps := by
    have H := S.ent id
    rw [he] at H
    obtain ⟨b, c, arr, e, h1, h2, h3, h6⟩ := H
    have hI : Imm h F μ (upd s (.i id) (.row g 1 true ps)) b := by
      refine ⟨(Array.getElem?_eq_some_iff.1 h2).1, h6, fun m => ?_⟩
      obtain ⟨id', c', e', m⟩ := m
      by_cases hi : id' = id
      · subst hi; rw [upd_self] at m; cases m
      · rw [upd_i_ne _ _ hi] at m
        exact hi (S.inj id' id _ _ _ e' h1 m (by rw [he]; rfl))
    refine ⟨b, c, h1, hI, .of_get fun j q hj => ?_⟩
    obtain ⟨v, hv, hp⟩ := h3.get j (.pv q) (by rw [List.getElem?_map, hj]; rfl)
    refine ⟨v, ?_, RepP.mono (T.mono F) q v hp⟩
    simp only [cellAt, h2, Nat.zero_add]
    simpa using hv
  refine ⟨S.step T id (fun id' hi => ⟨upd_i_ne _ _ hi, rfl⟩) (fun _ _ _ _ _ _ => rfl) ?_ (fun id' b c c' hi e m e' m' => ?_), key⟩
  · rw [upd_self]
    exact key
  · rw [upd_self] at m'; cases m'
/-- the relation looks at the blocks alone -/
theorem mutB_congr {μ : Mu} {s s' : St} (e : ∀ id, s' (.i id) = s (.i id)) : MutB μ s' = MutB μ s := by
  funext b
  simp only [MutB, e]
theorem imm_congr {h : Heap} {F : Nat → Prop} {μ : Mu} {s s' : St} (e : ∀ id, s' (.i id) = s (.i id)) : Imm h F μ s' = Imm h F μ s := by
  funext b
  simp only [Imm, mutB_congr e]
theorem gs_congr {s s' : St} (e : ∀ id, s' (.i id) = s (.i id)) : Gs s' = Gs s := by
  funext id
  simp only [Gs, e]
theorem SRel.congr {h : Heap} {F : Nat → Prop} {μ : Mu} {s s' : St} (e : ∀ id, s' (.i id) = s (.i id)) (S : SRel h F μ s) : SRel h F μ s' where
  low := S.low
  ent id := by rw [imm_congr e, gs_congr e, e]; exact S.ent id
  inj id id' b c c' h1 h2 h3 h4 := S.inj id id' b c c' h1 h2 (by rw [← e]; exact h3) (by rw [← e]; exact h4)
  tab := by rw [mutB_congr e]; exact S.tab
theorem Tr.congr {h h' : Heap} {μ μ' : Mu} {s s' t t' : St} (e : ∀ id, t (.i id) = s (.i id)) (e' : ∀ id, t' (.i id) = s' (.i id)) (T : Tr h μ s h' μ' s') : Tr h μ t h' μ' t' where
  size := T.size
  keep b hb hn := T.keep b hb (by rw [mutB_congr e] at hn; exact hn)
  mt b m := by rw [mutB_congr e'] at m; rw [mutB_congr e]; exact T.mt b m
  gen id := by simp only [Gs, e, e']; exact T.gen id
  addr id h := by simp only [Gs, e, e'] at h; exact T.addr id h
/-- the streams are as they were -/
structure Io (w w' : World) : Prop where
  os : w'.os = w.os
  tape : w'.tape = w.tape
  output : w'.output = w.output
theorem Io.refl (w : World) : Io w w := ⟨rfl, rfl, rfl⟩
theorem Io.trans {a b c : World} (h : Io a b) (k : Io b c) : Io a c := ⟨k.os.trans h.os, k.tape.trans h.tape, k.output.trans h.output⟩
/-- from one state to a later one, in worlds -/
structure TrW (w : World) (μ : Mu) (s : St) (w' : World) (μ' : Mu) (s' : St) : Prop where
  tr : Tr w.heap μ s w'.heap μ' s'
  io : Io w w'
theorem TrW.refl (w : World) (μ : Mu) (s : St) : TrW w μ s w μ s := ⟨.refl _ _ _, .refl _⟩
theorem TrW.trans {w w1 w2 : World} {μ μ1 μ2 : Mu} {s s1 s2 : St} (T : TrW w μ s w1 μ1 s1) (U : TrW w1 μ1 s1 w2 μ2 s2) : TrW w μ s w2 μ2 s2 := ⟨T.tr.trans U.tr, T.io.trans U.io⟩
end Go.Am
/-
The reader: what a computation that came to a result went through; and that it looks only at what it tells.
-/
namespace Go.Am
open Go
theorem bind_inv {α β : Type} {m : RM α} {f : α → RM β} {s : St} {b : β} {l : List Loc} (h : (m >>= f) s = some (b, l)) :
    ∃ a l1 l2, m s = some (a, l1) ∧ f a s = some (b, l2) ∧ l = l1 ++ l2 := by
  change RM.bind m f s = some (b, l) at h
  unfold RM.bind at h
  cases hm : m s with
  | none => rw [hm] at h; cases h
  | some x =>
    obtain ⟨a, l1⟩ := x
    rw [hm] at h
    simp only at h
    cases hf : f a s with
    | none => rw [hf] at h; cases h
    | some y =>
      obtain ⟨b', l2⟩ := y
      rw [hf] at h
      simp only [Option.some.injEq, Prod.mk.injEq] at h
      obtain ⟨rfl, rfl⟩ := h
      exact ⟨a, l1, l2, rfl, hf, rfl⟩
theorem pure_inv {α : Type} {a b : α} {s : St} {l : List Loc} (h : RM.pure a s = some (b, l)) : b = a ∧ l = [] := by
  simp only [RM.pure, Option.some.injEq, Prod.mk.injEq] at h
  exact ⟨h.1.symm, h.2.symm⟩
theorem fail_inv {α : Type} {b : α} {s : St} {l : List Loc} (h : (RM.fail : RM α) s = some (b, l)) : False := by cases h
theorem lift_inv {α : Type} {o : Option α} {b : α} {s : St} {l : List Loc} (h : lift o s = some (b, l)) : o = some b ∧ l = [] := by
  cases o with
  | none => cases h
  | some a => obtain ⟨rfl, rfl⟩ := pure_inv (s := s) h; exact ⟨rfl, rfl⟩
theorem need_inv {c : Bool} {b : Unit} {s : St} {l : List Loc} (h : need c s = some (b, l)) : c = true ∧ l = [] := by
  unfold need at h
  split at h
  · exact ⟨‹_›, (pure_inv h).2⟩
  · cases h
theorem rd_inv {x : Loc} {b : AV} {s : St} {l : List Loc} (h : rd x s = some (b, l)) : b = s x ∧ l = [x] := by
  simp only [rd, Option.some.injEq, Prod.mk.injEq] at h
  exact ⟨h.1.symm, h.2.symm⟩
theorem ret_inv {v : AV} {b : Eff} {s : St} {l : List Loc} (h : ret v s = some (b, l)) : b = { v := v, wr := [] } ∧ l = [] := pure_inv h
/-! ### locality -/
/-- the result hangs on what is told alone -/
def Lcl {α : Type} (m : RM α) : Prop := ∀ (s s' : St) (a : α) (l : List Loc), m s = some (a, l) → (∀ x ∈ l, s' x = s x) → m s' = some (a, l)
theorem Lcl.pure {α : Type} (a : α) : Lcl (RM.pure a) := fun _ _ _ _ h _ => h
theorem Lcl.fail {α : Type} : Lcl (RM.fail : RM α) := fun _ _ _ _ h _ => by cases h
theorem Lcl.rd (x : Loc) : Lcl (rd x) := fun s s' a l h e => by
  obtain ⟨rfl, rfl⟩ := rd_inv h
  simp only [Am.rd, e x (by simp)]
theorem Lcl.lift {α : Type} (o : Option α) : Lcl (lift o) := by
  cases o
  · exact .fail
  · exact .pure _
theorem Lcl.need (b : Bool) : Lcl (need b) := by
  unfold Am.need
  split
  · exact .pure _
  · exact .fail
theorem Lcl.ret (v : AV) : Lcl (ret v) := .pure _
theorem Lcl.bind {α β : Type} {m : RM α} {f : α → RM β} (hm : Lcl m) (hf : ∀ a, Lcl (f a)) : Lcl (m >>= f) := fun s s' b l h e => by
  obtain ⟨a, l1, l2, h1, h2, rfl⟩ := bind_inv h
  have e1 := hm s s' a l1 h1 fun x hx => e x (List.mem_append_left _ hx)
  have e2 := hf a s s' b l2 h2 fun x hx => e x (List.mem_append_right _ hx)
  show RM.bind m f s' = _
  unfold RM.bind
  rw [e1]
  simp only [e2]
theorem Lcl.evO : ∀ o, Lcl (evO o)
  | .tmp t => .rd _
  | .const v => .lift _
  | .func f => .pure _
  | .global _ => .fail
theorem Lcl.evOs : ∀ os, Lcl (evOs os)
  | [] => .pure _
  | o :: os => .bind (.evO o) fun _ => .bind (.evOs os) fun _ => .pure _
theorem Lcl.evOpt : ∀ o, Lcl (evOpt o)
  | none => .pure _
  | some o => .bind (.evO o) fun _ => .pure _
theorem Lcl.evParts : ∀ os, Lcl (evParts os)
  | [] => .pure _
  | (i, o) :: os => .bind (.evO o) fun _ => .bind (.evParts os) fun _ => .pure _
theorem Lcl.pub1 (v : AV) : Lcl (pub1 v) := by
  cases v <;> unfold Am.pub1 <;> first | exact .pure _ | exact .fail | skip
  refine .bind (.rd _) fun e => ?_
  split
  · split
    · exact .pure _
    · exact .fail
  · exact .fail
theorem Lcl.pub1s : ∀ l, Lcl (pub1s l)
  | [] => .pure _
  | v :: vs => .bind (.pub1 v) fun _ => .bind (.pub1s vs) fun _ => .pure _
theorem Lcl.pubV (v : AV) : Lcl (pubV v) := by
  cases v <;> unfold Am.pubV <;> first | exact .pub1 _ | exact .bind (.pub1s _) fun _ => .pure _
theorem Lcl.pubs : ∀ l, Lcl (pubs l)
  | [] => .pure _
  | v :: vs => .bind (.pubV v) fun _ => .bind (.pubs vs) fun _ => .pure _
theorem Lcl.pubParts : ∀ l, Lcl (pubParts l)
  | [] => .pure _
  | (_, v) :: vs => .bind (.pubV v) fun _ => .bind (.pubParts vs) fun _ => .pure _
theorem Lcl.rdW (w : List (Loc × AV)) (x : Loc) : Lcl (rdW w x) := .bind (.rd x) fun _ => .pure _
theorem Lcl.entries (w : List (Loc × AV)) : ∀ l, Lcl (entries w l)
  | [] => .pure _
  | x :: r => .bind (.rdW w _) fun _ => .bind (.need _) fun _ => .bind (.entries w r) fun _ => .pure _
theorem Lcl.reach (w : List (Loc × AV)) (l : List Id) : Lcl (reach w l) := by
  refine .bind (.entries w l) fun es => ?_
  show Lcl (if (dedup l (idsL es)).length = l.length then RM.pure l else _)
  split
  · exact .pure _
  · exact .bind (.entries w _) fun _ => .pure _
theorem Lcl.gens (r o : Nat) : ∀ n j, Lcl (gens r o n j)
  | 0, _ => .pure _
  | n + 1, j => .bind (.rd _) fun _ => .bind (.gens r o n (j + 1)) fun _ => .pure _
theorem Lcl.rowOf (x : AV) : Lcl (rowOf x) := by
  unfold Am.rowOf
  split
  · exact .pure _
  · exact .pure _
  · refine .bind (.rd _) fun e => ?_
    split
    · split
      · exact .pure _
      · exact .fail
    · exact .fail
  · exact .fail
theorem Lcl.newBox (r o : Nat) (l : List AV) : Lcl (newBox r o l) := .bind (.need _) fun _ => .bind (.rd _) fun _ => .pure _
theorem Lcl.newRowA (r o n sz : Nat) (l : List PV) (w : List (Loc × AV)) : Lcl (newRowA r o n sz l w) := .bind (.rd _) fun _ => .pure _
theorem Lcl.boundA (d : Nat) (o : Option AV) : Lcl (boundA d o) := by
  unfold Am.boundA
  split
  · exact .pure _
  · split
    · exact .pure _
    · exact .fail
  · exact .fail
theorem Lcl.intOfA (a : AV) : Lcl (intOfA a) := by
  unfold Am.intOfA
  split
  · exact .pure _
  · exact .fail
section
variable (P : Program)
theorem Lcl.sliceElem (t : TypeId) : Lcl (sliceElem P t) := by
  refine .bind (.lift _) fun ty => ?_
  split
  · exact .bind (.lift _) fun _ => .pure _
  · exact .fail
theorem Lcl.zeroP (ty : TyA) : Lcl (zeroP ty) := .bind (.lift _) fun _ => .bind (.need _) fun _ => .lift _
theorem Lcl.loadA (t : TypeId) (p : AV) : Lcl (loadA P t p) := by
  refine .bind (.lift _) fun ty => ?_
  split
  · exact .lift _
  · refine .bind (.rd _) fun e => ?_
    split
    · split
      · exact .lift _
      · exact .fail
    · split
      · exact .lift _
      · exact .fail
    · exact .fail
  · exact .fail
theorem Lcl.storeA (t : TypeId) (p x : AV) : Lcl (storeA P t p x) := by
  refine .bind (.lift _) fun ty => ?_
  split
  · refine .bind (.rd _) fun e => ?_
    split
    · exact .bind (.need _) fun _ => .bind (.lift _) fun _ => .pure _
    · exact .bind (.need _) fun _ => .bind (.pubV _) fun _ => .bind (.need _) fun _ => .bind (.lift _) fun _ => .bind (.lift _) fun _ => .pure _
    · exact .fail
  · exact .fail
theorem Lcl.buildA (t : TypeId) (ps : List (Nat × AV)) : Lcl (buildA P t ps) := by
  refine .bind (.lift _) fun ty => .bind (.lift _) fun z => ?_
  split
  · exact .bind (.lift _) fun _ => .bind (.lift _) fun _ => .bind (.need _) fun _ => .ret _
  · exact .bind (.lift _) fun _ => .bind (.lift _) fun _ => .bind (.need _) fun _ => .ret _
  · exact .fail
theorem Lcl.buildSliceA (r o : Nat) (t : TypeId) (n : Nat) (ps : List (Nat × AV)) : Lcl (buildSliceA P r o t n ps) :=
  .bind (.sliceElem P t) fun _ => .bind (.need _) fun _ => .bind (.zeroP _) fun _ => .bind (.pubParts _) fun _ => .bind (.lift _) fun _ => .bind (.lift _) fun _ => .newRowA _ _ _ _ _ _
theorem Lcl.makeSliceA (r o : Nat) (t : TypeId) (l c : AV) : Lcl (makeSliceA P r o t l c) :=
  .bind (.sliceElem P t) fun _ => .bind (.intOfA _) fun _ => .bind (.intOfA _) fun _ => .bind (.need _) fun _ => .bind (.zeroP _) fun _ => .newRowA _ _ _ _ _ _
theorem Lcl.rowStrA (ts : TyA) (x : AV) : Lcl (rowStrA P ts x) := by
  refine .bind (.rowOf _) fun y => ?_
  cases ts.d <;> first | exact .fail | skip
  exact .bind (.lift _) fun _ => .bind (.need _) fun _ => .bind (.lift _) fun _ => .bind (.lift _) fun _ => .ret _
theorem Lcl.convStrA (ts : TyA) (x : AV) : Lcl (convStrA P ts x) := by
  cases x with
  | pv p =>
    cases p with
    | str l => exact .bind (.need _) fun _ => .ret _
    | _ => exact .rowStrA P _ _
  | _ => exact .rowStrA P _ _
theorem Lcl.convA (a b : TypeId) (x : AV) : Lcl (convA P a b x) := by
  refine .bind (.lift _) fun ts => .bind (.lift _) fun td => ?_
  cases td.d with
  | int k =>
    cases x with
    | pv p =>
      cases p with
      | int => exact .ret _
      | _ => exact .fail
    | _ => exact .fail
  | slice e =>
    cases x with
    | pv p =>
      cases p with
      | str l => exact .bind (.lift _) fun te => .bind (.need _) fun _ => .ret _
      | _ => exact .fail
    | _ => exact .fail
  | str => exact .convStrA P _ _
  | _ => exact .fail
theorem Lcl.sliceArrA (ty : TyA) (id : Id) (g o : Nat) (lo : Option AV) : Lcl (sliceArrA P ty id g o lo) := by
  unfold Am.sliceArrA
  split
  · refine .bind (.need _) fun _ => .bind (.lift _) fun _ => .bind (.boundA _ _) fun _ => .bind (.need _) fun _ => .bind (.rd _) fun e => ?_
    split
    · split
      · exact .bind (.lift _) fun _ => .bind (.lift _) fun _ => .pure _
      · exact .fail
    · exact .fail
  · exact .fail
theorem Lcl.sliceA (t : TypeId) (x : AV) (lo hi : Option AV) : Lcl (sliceA P t x lo hi) := by
  refine .bind (.lift _) fun ty => ?_
  split
  · exact .bind (.need _) fun _ => .sliceArrA P _ _ _ _ _
  · refine .bind (.boundA _ _) fun l => .bind (.boundA _ _) fun h => .bind (.need _) fun _ => ?_
    split
    · exact .ret _
    · exact .fail
  · refine .bind (.boundA _ _) fun l => .bind (.boundA _ _) fun h => .bind (.need _) fun _ => ?_
    split
    · exact .bind (.lift _) fun _ => .ret _
    · exact .fail
  · refine .bind (.boundA _ _) fun l => .bind (.boundA _ _) fun h => .bind (.need _) fun _ => ?_
    split
    · exact .bind (.lift _) fun _ => .bind (.lift _) fun _ => .ret _
    · exact .fail
  · refine .bind (.boundA _ _) fun l => .bind (.boundA _ _) fun h => .bind (.need _) fun _ => ?_
    split
    · refine .bind (.lift _) fun te => .bind (.rd _) fun e => ?_
      split
      · split
        · split
          · exact .ret _
          · exact .bind (.lift _) fun _ => .pure _
        · exact .fail
      · exact .fail
    · exact .fail
  · exact .fail
theorem Lcl.fieldOffA (t : TypeId) (f : Nat) : Lcl (fieldOffA P t f) := by
  refine .bind (.lift _) fun ty => ?_
  split
  · exact .bind (.lift _) fun _ => .bind (.lift _) fun _ => .pure _
  · exact .fail
theorem Lcl.fieldAddrA (t : TypeId) (x : AV) (f : Nat) : Lcl (fieldAddrA P t x f) := by
  refine .bind (.fieldOffA P t f) fun _ => .bind (.need _) fun _ => ?_
  split
  · exact .ret _
  · exact .ret _
  · exact .fail
theorem Lcl.fieldA (t : TypeId) (x : AV) (f : Nat) : Lcl (fieldA P t x f) := by
  refine .bind (.fieldOffA P t f) fun y => ?_
  obtain ⟨tf, off⟩ := y
  cases x <;> first | exact .fail | skip
  rename_i l
  show Lcl (match loadC tf l off with
    | some v => _
    | none => _)
  cases loadC tf l off
  · exact .fail
  · exact .ret _
theorem Lcl.indexAddrA (t : TypeId) (x i : AV) : Lcl (indexAddrA P t x i) := by
  refine .bind (.lift _) fun ty => .bind (.intOfA _) fun n => ?_
  split
  all_goals first | exact .fail | exact .bind (.lift _) fun _ => .bind (.need _) fun _ => .ret _ | exact .bind (.lift _) fun _ => .bind (.need _) fun _ => .bind (.rd _) fun _ => .bind (.need _) fun _ => .ret _
theorem Lcl.indexA (t : TypeId) (x i : AV) : Lcl (indexA P t x i) := by
  refine .bind (.lift _) fun ty => .bind (.intOfA _) fun n => ?_
  split
  · split
    · exact .ret _
    · exact .fail
  · exact .bind (.lift _) fun _ => .bind (.need _) fun _ => .bind (.lift _) fun _ => .ret _
  · exact .fail
theorem Lcl.lenA (t : TypeId) (x : AV) : Lcl (lenA P t x) := by
  refine .bind (.lift _) fun ty => ?_
  split <;> first | exact .ret _ | exact .fail | exact .bind (.rd _) fun _ => .bind (.need _) fun _ => .ret _
theorem Lcl.appendA (r o : Nat) (t tx : TypeId) (x y : AV) : Lcl (appendA P r o t tx x y) := by
  refine .bind (.sliceElem P t) fun _ => .bind (.lift _) fun ty => .bind ?_ fun _ => .bind (.lift _) fun _ => .bind (.need _) fun _ => ?_
  · split
    · exact .bind (.need _) fun _ => .pure _
    · exact .bind (.rowOf _) fun _ => .bind (.lift _) fun _ => .pure _
    · exact .fail
  · split
    · refine .bind (.need _) fun _ => ?_
      split
      · exact .ret _
      · exact .newRowA _ _ _ _ _ _
    · refine .bind (.rd _) fun e => ?_
      split
      · exact .bind (.need _) fun _ => .bind (.lift _) fun _ => .pure _
      · exact .fail
    · exact .fail
theorem Lcl.builtinA (r o : Nat) (b : Builtin) (ts : List TypeId) (vs : List AV) : Lcl (builtinA P r o b ts vs) := by
  cases b <;> first | exact .fail | skip
  · rcases ts with _ | ⟨t, _ | ⟨u, _ | ⟨_, _⟩⟩⟩ <;> rcases vs with _ | ⟨x, _ | ⟨y, _ | ⟨_, _⟩⟩⟩ <;> first | exact .fail | exact .appendA P _ _ _ _ _ _
  · rcases ts with _ | ⟨t, _ | ⟨u, _⟩⟩ <;> rcases vs with _ | ⟨x, _ | ⟨y, _⟩⟩ <;> first | exact .fail | exact .lenA P _ _
  · rcases vs with _ | ⟨x, l⟩ <;> first | exact .fail | exact .bind (.lift _) fun _ => .ret _
  · rcases vs with _ | ⟨x, l⟩ <;> first | exact .fail | exact .bind (.lift _) fun _ => .ret _
theorem Lcl.callA (sm : Sm) (r o : Nat) (vs : List AV) : Lcl (callA sm r o vs) :=
  .bind (.pubs _) fun _ => .bind (.reach _ _) fun _ => .bind (.need _) fun _ => .bind (.entries _ _) fun _ => .bind (.lift _) fun _ => .bind (.need _) fun _ => .bind (.need _) fun _ => .bind (.gens _ _ _ _) fun _ => .pure _
theorem Lcl.callOpA (call : Fs) (r o : Nat) (c : Call) : Lcl (callOpA P call r o c) := by
  unfold Am.callOpA
  split
  · exact .bind (.evOs _) fun _ => .builtinA P _ _ _ _ _
  · refine .bind (.evO _) fun fv => .bind (.evOs _) fun _ => ?_
    split
    · exact .callA _ _ _ _
    · exact .fail
  · exact .fail
theorem Lcl.opA (call : Fs) (r j : Nat) (o : Op) : Lcl (opA P call r j o) := by
  unfold Am.opA
  split
  case h_1 => exact .bind (.evO _) fun _ => .ret _
  case h_2 => exact .bind (.evO _) fun _ => .ret _
  case h_3 =>
    refine .bind (.evO _) fun c => ?_
    split
    · exact .bind (.evO _) fun _ => .ret _
    · exact .bind (.evO _) fun _ => .ret _
    · exact .fail
  case h_4 => exact .bind (.lift _) fun _ => .bind (.lift _) fun _ => .newBox _ _ _
  case h_5 => exact .bind (.evO _) fun _ => .newBox _ _ _
  case h_6 => exact .bind (.evParts _) fun _ => .buildA P _ _
  case h_7 => exact .bind (.evParts _) fun _ => .buildSliceA P _ _ _ _ _
  case h_8 => exact .bind (.evO _) fun _ => .bind (.loadA P _ _) fun _ => .ret _
  case h_9 => exact .bind (.evO _) fun _ => .bind (.evO _) fun _ => .storeA P _ _ _
  case h_10 =>
    refine .bind (.evO _) fun v => ?_
    split <;> first | exact .ret _ | exact .fail
  case h_11 =>
    refine .bind (.evO _) fun v => .bind (.evO _) fun u => ?_
    split <;> first | exact .ret _ | exact .fail
  case h_12 =>
    refine .bind (.evO _) fun v => ?_
    split <;> first | exact .ret _ | exact .fail
  case h_13 => exact .bind (.evO _) fun _ => .convA P _ _ _
  case h_14 =>
    refine .bind (.evOs _) fun v => .bind (.evOs _) fun u => ?_
    split <;> first | exact .ret _ | exact .fail
  case h_15 => exact .bind (.evO _) fun _ => .bind (.evO _) fun _ => .makeSliceA P _ _ _ _ _
  case h_16 => exact .bind (.evO _) fun _ => .bind (.evOpt _) fun _ => .bind (.evOpt _) fun _ => .sliceA P _ _ _ _
  case h_17 => exact .bind (.evO _) fun _ => .fieldAddrA P _ _ _
  case h_18 => exact .bind (.evO _) fun _ => .fieldA P _ _ _
  case h_19 => exact .bind (.evO _) fun _ => .bind (.evO _) fun _ => .indexAddrA P _ _ _
  case h_20 => exact .bind (.evO _) fun _ => .bind (.evO _) fun _ => .indexA P _ _ _
  case h_21 =>
    refine .bind (.evO _) fun v => ?_
    split
    · split <;> first | exact .ret _ | exact .fail
    · exact .fail
  case h_22 => exact .callOpA P _ _ _ _
  case h_23 => exact .fail
theorem Lcl.wantedA (all : List Oper) (o : Oper) : Lcl (wantedA all o) := by
  unfold Am.wantedA
  split
  · exact .pure _
  · split
    · exact .pure _
    · refine .bind (.rd _) fun v => ?_
      split <;> first | exact .pure _ | exact .fail
theorem Lcl.stepA (call : Fs) (all : List Oper) (r j : Nat) (o : Oper) : Lcl (stepA P call all r j o) := by
  refine .bind (.wantedA _ _) fun w => ?_
  split
  · exact .opA P _ _ _ _
  · exact .ret _
end
end Go.Am
/-
Operations, first part: operands, constants, new blocks, loads, stores, what is given up for reading.
-/
namespace Go.Am
open Go
section types
variable {P : Program} {t : TypeId} {ty : TyA}
theorem tyA_inv (h : tyA P t = some ty) : ∃ i d, P.info? t = some i ∧ P.underlying t = some d ∧ ty.sz = i.size ∧ ty.bytes = i.bytes ∧ ty.agg = aggOf d ∧ ty.d = tdOf d ∧
    ty.zero = i.zero.bind fun z => cellsOf z.cells.toList := by
  unfold tyA at h
  split at h
  · cases h
    exact ⟨_, _, ‹_›, ‹_›, rfl, rfl, rfl, rfl, rfl⟩
  · cases h
end types
section runs
variable {P : Program} (w : World) {t : TypeId}
theorem run_typeInfo {i : TypeInfo} (h : P.info? t = some i) : (typeInfo t).run P w = .ok i w := by simp [typeInfo, h]
theorem run_underlying {d : TypeDesc} (h : P.underlying t = some d) : (underlying t).run P w = .ok d w := by simp [underlying, h]
theorem run_sizeOf {i : TypeInfo} (h : P.info? t = some i) : (sizeOf t).run P w = .ok i.size w := by simp [sizeOf, run_typeInfo w h]
theorem run_zeroValue {i : TypeInfo} {z : Value} (h : P.info? t = some i) (hz : i.zero = some z) : (zeroValue t).run P w = .ok z w := by simp [zeroValue, run_typeInfo w h, hz]
theorem run_isAgg {d : TypeDesc} (h : P.underlying t = some d) : (isAgg t).run P w = .ok (aggOf d) w := by
  unfold isAgg
  simp only [Sem.run_bind, run_underlying w h, Result.andThen_ok]
  cases d <;> rfl
end runs
section tds
theorem td_slice {d : TypeDesc} {e : TypeId} (h : tdOf d = .slice e) : d = .slice e := by cases d <;> simp [tdOf] at h <;> rw [h]
theorem td_int {d : TypeDesc} {k : IntKind} (h : tdOf d = .int k) : d = .int k := by cases d <;> simp [tdOf] at h <;> rw [h]
theorem td_bool {d : TypeDesc} (h : tdOf d = .bool) : d = .bool := by cases d <;> simp [tdOf] at h <;> rfl
theorem td_str {d : TypeDesc} (h : tdOf d = .str) : d = .string := by cases d <;> simp [tdOf] at h <;> rfl
theorem td_array {d : TypeDesc} {n : Nat} {e : TypeId} (h : tdOf d = .array n e) : d = .array n e := by cases d <;> simp [tdOf] at h; rw [h.1, h.2]
theorem td_iface {d : TypeDesc} (h : tdOf d = .iface) : ∃ m, d = .interface m := by cases d <;> simp [tdOf] at h; exact ⟨_, rfl⟩
theorem td_struct {d : TypeDesc} {fs : List (TypeId × Nat)} (h : tdOf d = .struct fs) : ∃ f, d = .struct f ∧ fs = f.toList.map fun x => (x.type, x.offset) := by
  cases d <;> simp [tdOf] at h
  exact ⟨_, rfl, h.symm⟩
end tds
/-! ### constants -/
theorem cellOf_rep {h : Heap} {I : Nat → Prop} {G : Gn} {μ : Mu} {v : Value} {a : AV} (e : cellOf v = some a) : RepV h I G μ a v := by
  unfold cellOf at e
  split at e <;> first | cases e | skip
  all_goals (simp only [RepV, RepP])
theorem cellsOf_rep {h : Heap} {I : Nat → Prop} {G : Gn} {μ : Mu} : ∀ {vs : List Value} {l : List AV}, cellsOf vs = some l → RepL h I G μ l vs
  | [], _, e => by cases e; trivial
  | v :: vs, l, e => by
    unfold cellsOf at e
    split at e
    · cases e
    · rename_i a ha
      split at e
      · cases e
      · rename_i l' hl
        cases e
        exact ⟨cellOf_rep ha, cellsOf_rep hl⟩
theorem constOf_rep {h : Heap} {I : Nat → Prop} {G : Gn} {μ : Mu} {v : Value} {a : AV} (e : constOf v = some a) : RepV h I G μ a v := by
  unfold constOf at e
  split at e
  · split at e
    · cases e
      exact ⟨_, rfl, cellsOf_rep ‹_›⟩
    · cases e
  · rename_i vs
    split at e
    · rename_i he
      cases e
      refine ⟨_, rfl, ?_⟩
      rw [List.isEmpty_iff.1 he]
      trivial
    · cases e
  · exact cellOf_rep e
/-! ### the setting -/
abbrev RV (F : Nat → Prop) (w : World) (μ : Mu) (s : St) (a : AV) (v : Value) : Prop := RepV w.heap (Imm w.heap F μ s) (Gs s) μ a v
abbrev RL (F : Nat → Prop) (w : World) (μ : Mu) (s : St) (a : List AV) (v : List Value) : Prop := RepL w.heap (Imm w.heap F μ s) (Gs s) μ a v
def ARel (F : Nat → Prop) (w : World) (μ : Mu) (s : St) (a : Act) : Prop := ∀ t, RV F w μ s (s (.t t)) (a.tmps.getD t undef)
theorem evO_sound {F : Nat → Prop} {w : World} {μ : Mu} {s : St} {a : Act} (A : ARel F w μ s a) : ∀ {o : Operand} {v : AV} {l : List Loc}, evO o s = some (v, l) → RV F w μ s v (a.eval o)
  | .tmp t, v, l, h => by
    obtain ⟨rfl, _⟩ := rd_inv h
    exact A t
  | .const c, v, l, h => constOf_rep (lift_inv h).1
  | .func f, v, l, h => by
    obtain ⟨rfl, _⟩ := pure_inv (s := s) h
    exact ⟨#[], #[], rfl, trivial, trivial⟩
  | .global g, v, l, h => (fail_inv (s := s) h).elim
theorem evOs_sound {F : Nat → Prop} {w : World} {μ : Mu} {s : St} {a : Act} (A : ARel F w μ s a) : ∀ {os : List Operand} {vs : List AV} {l : List Loc}, evOs os s = some (vs, l) → RL F w μ s vs (os.map a.eval)
  | [], vs, l, h => by obtain ⟨rfl, _⟩ := pure_inv h; trivial
  | o :: os, vs, l, h => by
    obtain ⟨v, _, _, h1, h, _⟩ := bind_inv h
    obtain ⟨ws, _, _, h2, h, _⟩ := bind_inv h
    obtain ⟨rfl, _⟩ := pure_inv h
    exact ⟨evO_sound A h1, evOs_sound A h2⟩
/-- what an operation leaves -/
structure Post (F : Nat → Prop) (w : World) (μ : Mu) (s : St) (e : Eff) (v : Value) (μ' : Mu) (w' : World) : Prop where
  rel : SRel w'.heap F μ' (upds s e.wr)
  val : RepV w'.heap (Imm w'.heap F μ' (upds s e.wr)) (Gs (upds s e.wr)) μ' e.v v
  tr : TrW w μ s w' μ' (upds s e.wr)
  tmp : ∀ t, upds s e.wr (.t t) = s (.t t)
theorem post_ret {F : Nat → Prop} {w w' : World} {μ : Mu} {s : St} (S : SRel w.heap F μ s) (hh : w' = w) {a : AV} {v : Value} (r : RV F w μ s a v) :
    Post F w μ s { v := a, wr := [] } v μ w' where
  rel := by rw [hh]; exact S
  val := by rw [hh]; exact r
  tr := by rw [hh]; exact .refl _ _ _
  tmp _ := rfl
theorem newBox_sound {F : Nat → Prop} {w : World} {μ : Mu} {s : St} (S : SRel w.heap F μ s) {r o : Nat} {cells : List AV} {arr : Array Value} {elem : TypeId} {e : Eff} {l : List Loc}
    (h : newBox r o cells s = some (e, l)) (R : RL F w μ s cells arr.toList) :
    ∃ μ', Post F w μ s e (.pointer (some ⟨w.heap.size, 0, none⟩)) μ' { w with heap := w.heap.push (.cells arr elem) } := by
  obtain ⟨_, _, _, h1, h, _⟩ := bind_inv h
  obtain ⟨x, _, _, h2, h, _⟩ := bind_inv h
  obtain ⟨rfl, _⟩ := rd_inv h2
  obtain ⟨rfl, _⟩ := pure_inv h
  have hg : gen (s (.i (.site r o 0))) < gen (.box (gen (s (.i (.site r o 0))) + 1) cells) := Nat.lt_succ_self _
  have T := tr_new (h := w.heap) (μ := μ) s (o := .cells arr elem) (c := 0) hg
  refine ⟨setMu μ (.site r o 0) (w.heap.size, 0), ?_, ?_, ⟨T, ⟨rfl, rfl, rfl⟩⟩, fun t => by simp only [upds, upd_i_t]⟩
  · refine srel_new S hg ⟨_, _, arr, elem, rfl, by simp, RepL.mono (T.mono F) T.monoG _ _ R, fun hf => Nat.lt_irrefl _ (S.low _ hf)⟩
  · refine ⟨?_, ⟨_, rfl⟩, fun _ => ⟨_, _, setMu_self _ _ _, rfl⟩⟩
    simp only [upds, Gs, upd_self, gen]
    exact Nat.le_refl _
/-! ### reading -/
theorem row_of_ent {h : Heap} {F : Nat → Prop} {I : Nat → Prop} {G : Gn} {μ : Mu} {a : Option (Nat × Nat)} {g sz : Nat} {p : Bool} {cs : List PV} (H : EntOk h F I G μ a (.row g sz p cs)) :
    ∃ b c, a = some (b, c) ∧ RepRow h I b 0 cs := by
  cases p with
  | true => obtain ⟨b, c, h1, _, h2⟩ := H; exact ⟨b, c, h1, h2⟩
  | false =>
    obtain ⟨b, c, arr, e, h1, h2, _, _, h3, _⟩ := H
    exact ⟨b, c, h1, .of_get fun j p hj => by
      obtain ⟨v, hv, hp⟩ := h3 j p hj
      exact ⟨v, by simp only [cellAt, h2, Nat.zero_add]; exact hv, hp⟩⟩
theorem RepRow.vals {h : Heap} {I : Nat → Prop} {b : Nat} : ∀ {off : Nat} {cs : List PV}, RepRow h I b off cs →
    ∃ us : List Value, us.length = cs.length ∧ (∀ j, j < cs.length → cellAt h b (off + j) = us[j]?) ∧ (∀ (j : Nat) p u, cs[j]? = some p → us[j]? = some u → RepP h I p u)
  | _, [], _ => ⟨[], rfl, fun j hj => by simp at hj, fun j p u hp => by simp at hp⟩
  | off, p :: ps, r => by
    obtain ⟨⟨v, hv, hp⟩, r⟩ := r
    obtain ⟨us, h1, h2, h3⟩ := r.vals
    refine ⟨v :: us, by simp [h1], fun j hj => ?_, fun j q u hq hu => ?_⟩
    · cases j with
      | zero => exact hv
      | succ j =>
        have := h2 j (by simpa using hj)
        rw [List.getElem?_cons_succ, ← this, Nat.add_assoc, Nat.add_comm 1 j]
    · cases j with
      | zero => cases hq; cases hu; exact hp
      | succ j => exact h3 j q u (by simpa using hq) (by simpa using hu)
theorem addr_add (b o j : Nat) : (⟨b, o, none⟩ : Addr).add j = ⟨b, o + j, none⟩ := by
  unfold Addr.add
  split
  · rename_i h; subst h; rfl
  · rfl
/-- loading the cells of a row -/
theorem run_load_row' {P : Program} {h : Heap} {I : Nat → Prop} {G : Gn} {μ : Mu} {b off : Nat} {cs : List PV} (R : RepRow h I b off cs) :
    ∃ us : List Value, us.length = cs.length ∧ (∀ w : World, w.heap = h → (loadCells ⟨b, off, none⟩ cs.length).run P w = .ok us.toArray w) ∧ RepL h I G μ (cs.map .pv) us ∧
      (∀ (j : Nat) p u, cs[j]? = some p → us[j]? = some u → RepP h I p u) := by
  obtain ⟨us, h1, h2, h3⟩ := R.vals
  refine ⟨us, h1, fun w hw => ?_, RepL.of_row R h1 h2, h3⟩
  rw [← h1]
  refine run_loadCells_list w _ us fun j v hv => ?_
  rw [addr_add, cell?_eq, hw, h2 j (by
    rw [← h1]
    exact (List.getElem?_eq_some_iff.1 hv).1)]
  exact hv
theorem run_load_row {P : Program} (w : World) {I : Nat → Prop} {G : Gn} {μ : Mu} {b off : Nat} {cs : List PV} (R : RepRow w.heap I b off cs) :
    ∃ us : List Value, us.length = cs.length ∧ (loadCells ⟨b, off, none⟩ cs.length).run P w = .ok us.toArray w ∧ RepL w.heap I G μ (cs.map .pv) us ∧
      (∀ (j : Nat) p u, cs[j]? = some p → us[j]? = some u → RepP w.heap I p u) := by
  obtain ⟨us, h1, h2, h3, h4⟩ := run_load_row' (P := P) (G := G) (μ := μ) R
  exact ⟨us, h1, h2 w rfl, h3, h4⟩
theorem loadP_sound {P : Program} {w : World} {I : Nat → Prop} {G : Gn} {μ : Mu} {t : TypeId} {ty : TyA} {b o off : Nat} {cs : List PV} {v : AV} (ht : tyA P t = some ty)
    (R : RepRow w.heap I b o cs) (h : loadP ty cs off = some v) : ∃ u, (loadVar t ⟨b, o + off, none⟩).run P w = .ok u w ∧ RepV w.heap I G μ v u := by
  obtain ⟨i, d, h1, h2, h3, h4, h5, h6, h7⟩ := tyA_inv ht
  unfold loadP at h
  unfold loadVar
  simp only [Sem.run_bind, run_isAgg w h2, Result.andThen_ok, ← h5]
  split at h
  · rename_i ha
    simp only [ha, if_true]
    obtain ⟨r, hr, rfl⟩ := Option.map_eq_some_iff.1 h
    obtain ⟨us, e1, e2, e3, _⟩ := run_load_row (P := P) w (G := G) (μ := μ) (R.sub hr)
    rw [sub?_length hr, h3] at e2
    refine ⟨.agg us.toArray, ?_, ⟨_, rfl, e3⟩⟩
    simp only [Sem.run_bind, run_sizeOf w h1, Result.andThen_ok, e2, Sem.run_pure]
  · rename_i ha
    obtain ⟨p, hp, rfl⟩ := Option.map_eq_some_iff.1 h
    obtain ⟨u, e1, e2⟩ := R.get off p hp
    refine ⟨u, ?_, e2⟩
    rw [if_neg ha]
    simp only [run_load, cell?_eq, e1]
theorem loadC_sound {P : Program} {w : World} {I : Nat → Prop} {G : Gn} {μ : Mu} {t : TypeId} {ty : TyA} {b off : Nat} {cs : List AV} {v : AV} {arr : Array Value} {e : TypeId} (ht : tyA P t = some ty)
    (hb : w.heap[b]? = some (.cells arr e (0, 0))) (R : RepL w.heap I G μ cs arr.toList) (h : loadC ty cs off = some v) :
    ∃ u, (loadVar t ⟨b, off, none⟩).run P w = .ok u w ∧ RepV w.heap I G μ v u := by
  obtain ⟨i, d, h1, h2, h3, h4, h5, h6, h7⟩ := tyA_inv ht
  unfold loadC at h
  unfold loadVar
  simp only [Sem.run_bind, run_isAgg w h2, Result.andThen_ok, ← h5]
  split at h
  · rename_i ha
    simp only [ha, if_true]
    obtain ⟨r, hr, rfl⟩ := Option.map_eq_some_iff.1 h
    have hs := sub?_some hr
    have hl := R.length
    have e2 : (loadCells ⟨b, off, none⟩ i.size).run P w = .ok ((arr.toList.drop off).take ty.sz).toArray w := by
      have hlen : ((arr.toList.drop off).take ty.sz).length = i.size := by simp at hl ⊢; omega
      rw [← hlen]
      refine run_loadCells_list w _ _ fun j v hv => ?_
      rw [addr_add, cell?_eq]
      simp only [cellAt, hb]
      rw [List.getElem?_take] at hv
      split at hv
      · rw [List.getElem?_drop] at hv
        simpa using hv
      · cases hv
    refine ⟨.agg ((arr.toList.drop off).take ty.sz).toArray, ?_, ⟨_, rfl, R.sub hr⟩⟩
    simp only [Sem.run_bind, run_sizeOf w h1, Result.andThen_ok, e2, Sem.run_pure]
  · rename_i ha
    obtain ⟨u, e1, e2⟩ := R.get off v h
    refine ⟨u, ?_, e2⟩
    have : arr[off]? = some u := by simpa using e1
    rw [if_neg ha]
    simp only [run_load, cell?_eq, cellAt, hb, this]
theorem loadA_sound {P : Program} {F : Nat → Prop} {w : World} {μ : Mu} {s : St} (S : SRel w.heap F μ s) {t : TypeId} {p v : AV} {l : List Loc} {x : Value}
    (h : loadA P t p s = some (v, l)) (R : RV F w μ s p x) : ∃ a u, x = .pointer (some a) ∧ (loadVar t a).run P w = .ok u w ∧ RV F w μ s v u := by
  obtain ⟨ty, _, _, h1, h, _⟩ := bind_inv h
  have ht := (lift_inv h1).1
  cases p with
  | rptr cells off =>
    obtain ⟨b, o, rfl, hb, R⟩ := R
    obtain ⟨u, e1, e2⟩ := loadP_sound (G := Gs s) (μ := μ) ht R (lift_inv h).1
    exact ⟨_, u, rfl, e1, e2⟩
  | ptr id g off =>
    obtain ⟨e, _, _, h2, h, _⟩ := bind_inv h
    obtain ⟨rfl, _⟩ := rd_inv h2
    obtain ⟨_, _, R⟩ := R
    have H := S.ent id
    cases he : s (.i id) with
    | box g' cells =>
      rw [he] at H h
      simp only at h
      split at h
      · rename_i hg
        obtain ⟨b, c, arr, e, k1, k2, k3, _⟩ := H
        obtain ⟨b', c', k4, rfl⟩ := R (by simp only [Gs, he, gen, hg])
        rw [k1] at k4
        cases k4
        obtain ⟨u, e1, e2⟩ := loadC_sound (P := P) ht k2 k3 (lift_inv h).1
        exact ⟨_, u, rfl, e1, e2⟩
      · exact (fail_inv h).elim
    | row g' sz pub cells =>
      rw [he] at H h
      simp only at h
      split at h
      · rename_i hg
        obtain ⟨b, c, k1, k2⟩ := row_of_ent H
        obtain ⟨b', c', k4, rfl⟩ := R (by simp only [Gs, he, gen, hg])
        rw [k1] at k4
        cases k4
        obtain ⟨u, e1, e2⟩ := loadP_sound (P := P) (G := Gs s) (μ := μ) ht k2 (lift_inv h).1
        rw [Nat.zero_add] at e1
        exact ⟨_, u, rfl, e1, e2⟩
      · exact (fail_inv h).elim
    | _ => rw [he] at h; exact (fail_inv h).elim
  | _ => exact (fail_inv h).elim
end Go.Am
/-
Operations, second part: what is given up for reading; stores.
-/
namespace Go.Am
open Go
/-- writes that only give rows up for reading -/
def PubW (s : St) (wr : List (Loc × AV)) : Prop := ∀ q ∈ wr, ∃ id g sz p cs, q = (.i id, .row g sz true cs) ∧ s (.i id) = .row g sz p cs
/-- they are given up -/
def PubD (h : Heap) (F : Nat → Prop) (μ : Mu) (s : St) (wr : List (Loc × AV)) : Prop :=
  ∀ id g sz cs, (Loc.i id, AV.row g sz true cs) ∈ wr → ∃ b c, μ id = some (b, c) ∧ Imm h F μ s b ∧ RepRow h (Imm h F μ s) b 0 cs
theorem PubW.append {s : St} {a b : List (Loc × AV)} (h1 : PubW s a) (h2 : PubW s b) : PubW s (a ++ b) := fun q hq => by
  rcases List.mem_append.1 hq with h | h
  · exact h1 q h
  · exact h2 q h
theorem PubW.nil (s : St) : PubW s [] := fun q hq => by cases hq
theorem PubD.left {h : Heap} {F : Nat → Prop} {μ : Mu} {s : St} {a b : List (Loc × AV)} (D : PubD h F μ s (a ++ b)) : PubD h F μ s a :=
  fun id g sz cs hm => D id g sz cs (List.mem_append_left _ hm)
theorem PubD.right {h : Heap} {F : Nat → Prop} {μ : Mu} {s : St} {a b : List (Loc × AV)} (D : PubD h F μ s (a ++ b)) : PubD h F μ s b :=
  fun id g sz cs hm => D id g sz cs (List.mem_append_right _ hm)
theorem pub_state {h : Heap} {F : Nat → Prop} {μ : Mu} : ∀ {wr : List (Loc × AV)} {s : St}, SRel h F μ s → PubW s wr →
    SRel h F μ (upds s wr) ∧ Tr h μ s h μ (upds s wr) ∧ PubD h F μ (upds s wr) wr ∧ (∀ t, upds s wr (.t t) = s (.t t)) ∧
      (∀ id, upds s wr (.i id) = s (.i id) ∨ ∃ g sz p cs, s (.i id) = .row g sz p cs ∧ upds s wr (.i id) = .row g sz true cs)
  | [], s, S, _ => ⟨S, .refl _ _ _, fun _ _ _ _ hm => (by simp at hm), fun _ => rfl, fun _ => .inl rfl⟩
  | q :: wr, s, S, W => by
    obtain ⟨id, g, sz, p, cs, rfl, he⟩ := W q (by simp)
    obtain ⟨S1, b, c, h1, h2, h3⟩ := srel_pub S he
    have T1 := tr_pub (h := h) (μ := μ) he
    have W1 : PubW (upd s (.i id) (.row g sz true cs)) wr := fun q hq => by
      obtain ⟨id', g', sz', p', cs', rfl, he'⟩ := W q (by simp [hq])
      by_cases hi : id' = id
      · subst hi
        rw [he] at he'
        cases he'
        exact ⟨id', g, sz, true, cs, rfl, upd_self _ _ _⟩
      · exact ⟨id', g', sz', p', cs', rfl, by rw [upd_i_ne _ _ hi]; exact he'⟩
    obtain ⟨S2, T2, D2, t2, i2⟩ := pub_state S1 W1
    refine ⟨S2, T1.trans T2, fun id' g' sz' cs' hm => ?_, fun t => by show upds _ wr _ = _; rw [t2, upd_i_t], fun id' => ?_⟩
    · rcases List.mem_cons.1 hm with e | hm
      · cases e
        exact ⟨b, c, h1, T2.imm b h2, RepRow.mono (T2.mono F) b h2 0 cs h3⟩
      · exact D2 id' g' sz' cs' hm
    · show upds (upd s (.i id) (.row g sz true cs)) wr (.i id') = _ ∨ _
      by_cases hi : id' = id
      · subst hi
        refine .inr ⟨g, sz, p, cs, he, ?_⟩
        rcases i2 id' with e | ⟨g', sz', p', cs', e1, e2⟩
        · rw [upd_self] at e; exact e
        · rw [upd_self] at e1
          cases e1
          exact e2
      · have := i2 id'
        rw [upd_i_ne _ _ hi] at this
        exact this
theorem pub1_w {s : St} {v u : AV} {wr : List (Loc × AV)} {l : List Loc} (h : pub1 v s = some ((u, wr), l)) : PubW s wr := by
  cases v with
  | osl id g n =>
    obtain ⟨e, _, _, h1, h, _⟩ := bind_inv h
    obtain ⟨rfl, _⟩ := rd_inv h1
    cases he : s (.i id) with
    | row g' sz p cs =>
      rw [he] at h
      simp only at h
      split at h
      · obtain ⟨h, _⟩ := pure_inv h
        cases h
        intro q hq
        simp at hq
        exact ⟨id, g', sz, p, cs, hq, he⟩
      · exact (fail_inv h).elim
    | _ => rw [he] at h; exact (fail_inv h).elim
  | any => exact (fail_inv (s := s) h).elim
  | box g cs => exact (fail_inv (s := s) h).elim
  | row g sz p cs => exact (fail_inv (s := s) h).elim
  | _ => obtain ⟨h, _⟩ := pure_inv (s := s) h; cases h; exact .nil s
theorem pub1_val {h : Heap} {F : Nat → Prop} {μ : Mu} {s s' : St} (S : SRel h F μ s) (T : Tr h μ s h μ s') {v u : AV} {wr : List (Loc × AV)} {l : List Loc} (e : pub1 v s = some ((u, wr), l)) (D : PubD h F μ s' wr)
    {x : Value} (R : RepV h (Imm h F μ s) (Gs s) μ v x) : RepV h (Imm h F μ s') (Gs s') μ u x := by
  have R' := RepV.mono (T.mono F) T.monoG v x R
  cases v with
  | osl id g n =>
    obtain ⟨e, _, _, h1, e, _⟩ := bind_inv e
    obtain ⟨rfl, _⟩ := rd_inv h1
    cases he : s (.i id) with
    | row g' sz p cs =>
      rw [he] at e
      simp only at e
      split at e
      · rename_i hg
        obtain ⟨e, _⟩ := pure_inv e
        cases e
        obtain ⟨_, _, R⟩ := R
        obtain ⟨b, c, k1, rfl, k2⟩ := R (by simp only [Gs, he, gen, hg])
        obtain ⟨b', c', k3, k4, k5⟩ := D id g' sz cs (by simp)
        rw [k1] at k3
        cases k3
        exact ⟨_, c, rfl, k2, .inr ⟨b, 0, rfl, k4, k5.take⟩⟩
      · exact (fail_inv e).elim
    | _ => rw [he] at e; exact (fail_inv e).elim
  | nilsl =>
    obtain ⟨e, _⟩ := pure_inv (s := s) e
    cases e
    cases R
    exact ⟨none, 0, rfl, Nat.le_refl _, .inl rfl⟩
  | any => exact (fail_inv (s := s) e).elim
  | box g cs => exact (fail_inv (s := s) e).elim
  | row g sz p cs => exact (fail_inv (s := s) e).elim
  | _ => obtain ⟨e, _⟩ := pure_inv (s := s) e; cases e; exact R'
theorem pub1s_w {s : St} : ∀ {v u : List AV} {wr : List (Loc × AV)} {l : List Loc}, pub1s v s = some ((u, wr), l) → PubW s wr
  | [], u, wr, l, h => by obtain ⟨h, _⟩ := pure_inv h; cases h; exact .nil s
  | v :: vs, u, wr, l, h => by
    obtain ⟨⟨w, p⟩, _, _, h1, h, _⟩ := bind_inv h
    obtain ⟨⟨ws, q⟩, _, _, h2, h, _⟩ := bind_inv h
    obtain ⟨h, _⟩ := pure_inv h
    cases h
    exact (pub1_w h1).append (pub1s_w h2)
theorem pub1s_val {h : Heap} {F : Nat → Prop} {μ : Mu} {s s' : St} (S : SRel h F μ s) (T : Tr h μ s h μ s') : ∀ {v u : List AV} {wr : List (Loc × AV)} {l : List Loc}, pub1s v s = some ((u, wr), l) → PubD h F μ s' wr →
    ∀ {x : List Value}, RepL h (Imm h F μ s) (Gs s) μ v x → RepL h (Imm h F μ s') (Gs s') μ u x
  | [], u, wr, l, e, D, x, R => by
    obtain ⟨e, _⟩ := pure_inv (s := s) e
    cases e
    cases x with
    | nil => trivial
    | cons => exact R.elim
  | v :: vs, u, wr, l, e, D, x, R => by
    obtain ⟨⟨w, p⟩, _, _, h1, e, _⟩ := bind_inv e
    obtain ⟨⟨ws, q⟩, _, _, h2, e, _⟩ := bind_inv e
    obtain ⟨e, _⟩ := pure_inv e
    cases e
    cases x with
    | nil => exact R.elim
    | cons x xs => exact ⟨pub1_val S T h1 D.left R.1, pub1s_val S T h2 D.right R.2⟩
theorem pubV_w {s : St} {v u : AV} {wr : List (Loc × AV)} {l : List Loc} (h : pubV v s = some ((u, wr), l)) : PubW s wr := by
  cases v with
  | agg vs =>
    obtain ⟨⟨w, p⟩, _, _, h1, h, _⟩ := bind_inv h
    obtain ⟨h, _⟩ := pure_inv h
    cases h
    exact pub1s_w h1
  | _ => unfold pubV at h; exact pub1_w h
theorem pubV_val {h : Heap} {F : Nat → Prop} {μ : Mu} {s s' : St} (S : SRel h F μ s) (T : Tr h μ s h μ s') {v u : AV} {wr : List (Loc × AV)} {l : List Loc} (e : pubV v s = some ((u, wr), l)) (D : PubD h F μ s' wr)
    {x : Value} (R : RepV h (Imm h F μ s) (Gs s) μ v x) : RepV h (Imm h F μ s') (Gs s') μ u x := by
  cases v with
  | agg vs =>
    obtain ⟨⟨w, p⟩, _, _, h1, e, _⟩ := bind_inv e
    obtain ⟨e, _⟩ := pure_inv e
    cases e
    obtain ⟨y, rfl, R⟩ := R
    exact ⟨y, rfl, pub1s_val S T h1 D R⟩
  | _ => unfold pubV at e; exact pub1_val S T e D R
theorem pubs_w {s : St} : ∀ {v u : List AV} {wr : List (Loc × AV)} {l : List Loc}, pubs v s = some ((u, wr), l) → PubW s wr
  | [], u, wr, l, h => by obtain ⟨h, _⟩ := pure_inv h; cases h; exact .nil s
  | v :: vs, u, wr, l, h => by
    obtain ⟨⟨w, p⟩, _, _, h1, h, _⟩ := bind_inv h
    obtain ⟨⟨ws, q⟩, _, _, h2, h, _⟩ := bind_inv h
    obtain ⟨h, _⟩ := pure_inv h
    cases h
    exact (pubV_w h1).append (pubs_w h2)
theorem pubs_val {h : Heap} {F : Nat → Prop} {μ : Mu} {s s' : St} (S : SRel h F μ s) (T : Tr h μ s h μ s') : ∀ {v u : List AV} {wr : List (Loc × AV)} {l : List Loc}, pubs v s = some ((u, wr), l) → PubD h F μ s' wr →
    ∀ {x : List Value}, RepL h (Imm h F μ s) (Gs s) μ v x → RepL h (Imm h F μ s') (Gs s') μ u x
  | [], u, wr, l, e, D, x, R => by
    obtain ⟨e, _⟩ := pure_inv (s := s) e
    cases e
    cases x with
    | nil => trivial
    | cons => exact R.elim
  | v :: vs, u, wr, l, e, D, x, R => by
    obtain ⟨⟨w, p⟩, _, _, h1, e, _⟩ := bind_inv e
    obtain ⟨⟨ws, q⟩, _, _, h2, e, _⟩ := bind_inv e
    obtain ⟨e, _⟩ := pure_inv e
    cases e
    cases x with
    | nil => exact R.elim
    | cons x xs => exact ⟨pubV_val S T h1 D.left R.1, pubs_val S T h2 D.right R.2⟩
/-- parts of a composite, by their places -/
def RepParts (h : Heap) (I : Nat → Prop) (G : Gn) (μ : Mu) : List (Nat × AV) → List (Nat × Value) → Prop
  | [], [] => True
  | (i, a) :: as, (j, v) :: vs => i = j ∧ RepV h I G μ a v ∧ RepParts h I G μ as vs
  | _, _ => False
theorem evParts_sound {F : Nat → Prop} {w : World} {μ : Mu} {s : St} {a : Act} (A : ARel F w μ s a) : ∀ {os : List (Nat × Operand)} {vs : List (Nat × AV)} {l : List Loc}, evParts os s = some (vs, l) →
    RepParts w.heap (Imm w.heap F μ s) (Gs s) μ vs (os.map fun (i, x) => (i, a.eval x))
  | [], vs, l, h => by obtain ⟨rfl, _⟩ := pure_inv h; trivial
  | (i, o) :: os, vs, l, h => by
    obtain ⟨v, _, _, h1, h, _⟩ := bind_inv h
    obtain ⟨ws, _, _, h2, h, _⟩ := bind_inv h
    obtain ⟨rfl, _⟩ := pure_inv h
    exact ⟨rfl, evO_sound A h1, evParts_sound A h2⟩
theorem pubParts_w {s : St} : ∀ {v u : List (Nat × AV)} {wr : List (Loc × AV)} {l : List Loc}, pubParts v s = some ((u, wr), l) → PubW s wr
  | [], u, wr, l, h => by obtain ⟨h, _⟩ := pure_inv h; cases h; exact .nil s
  | (i, v) :: vs, u, wr, l, h => by
    obtain ⟨⟨w, p⟩, _, _, h1, h, _⟩ := bind_inv h
    obtain ⟨⟨ws, q⟩, _, _, h2, h, _⟩ := bind_inv h
    obtain ⟨h, _⟩ := pure_inv h
    cases h
    exact (pubV_w h1).append (pubParts_w h2)
theorem pubParts_val {h : Heap} {F : Nat → Prop} {μ : Mu} {s s' : St} (S : SRel h F μ s) (T : Tr h μ s h μ s') : ∀ {v u : List (Nat × AV)} {wr : List (Loc × AV)} {l : List Loc}, pubParts v s = some ((u, wr), l) → PubD h F μ s' wr →
    ∀ {x : List (Nat × Value)}, RepParts h (Imm h F μ s) (Gs s) μ v x → RepParts h (Imm h F μ s') (Gs s') μ u x
  | [], u, wr, l, e, D, x, R => by
    obtain ⟨e, _⟩ := pure_inv (s := s) e
    cases e
    cases x with
    | nil => trivial
    | cons => exact R.elim
  | (i, v) :: vs, u, wr, l, e, D, x, R => by
    obtain ⟨⟨w, p⟩, _, _, h1, e, _⟩ := bind_inv e
    obtain ⟨⟨ws, q⟩, _, _, h2, e, _⟩ := bind_inv e
    obtain ⟨e, _⟩ := pure_inv e
    cases e
    cases x with
    | nil => exact R.elim
    | cons x xs => exact ⟨R.1, pubV_val S T h1 D.left R.2.1, pubParts_val S T h2 D.right R.2.2⟩
theorem pureCells_rep {h : Heap} {I : Nat → Prop} {G : Gn} {μ : Mu} : ∀ {l : List AV} {ps : List PV} {vs : List Value}, pureCells l = some ps → RepL h I G μ l vs →
    l = ps.map .pv ∧ vs.length = ps.length ∧ (∀ (j : Nat) p, ps[j]? = some p → ∃ v, vs[j]? = some v ∧ RepP h I p v) ∧ ∀ v ∈ vs, v.oneCell' = true
  | [], ps, vs, e, R => by
    cases e
    cases vs with
    | nil => exact ⟨rfl, rfl, fun j p hp => by simp at hp, fun v hv => by cases hv⟩
    | cons => exact R.elim
  | a :: l, ps, vs, e, R => by
    cases a with
    | pv p =>
      unfold pureCells at e
      split at e
      · rename_i ps' hp
        cases e
        cases vs with
        | nil => exact R.elim
        | cons v vs =>
          obtain ⟨k1, k2, k3, k4⟩ := pureCells_rep hp R.2
          refine ⟨by rw [k1]; rfl, by simp [k2], fun j q hq => ?_, fun u hu => ?_⟩
          · cases j with
            | zero => cases hq; exact ⟨v, rfl, R.1⟩
            | succ j => exact k3 j q (by simpa using hq)
          · rcases List.mem_cons.1 hu with rfl | hu
            · exact (RepP.oneCell R.1).1
            · exact k4 u hu
      · cases e
    | _ => cases e
theorem put?_some {α : Type} {l r new : List α} {off : Nat} (h : put? l off new = some r) : off + new.length ≤ l.length ∧ r = l.take off ++ new ++ l.drop (off + new.length) := by
  unfold put? at h
  split at h
  · exact ⟨‹_›, (Option.some.inj h).symm⟩
  · cases h
/-- an element of what was put together -/
theorem put_get {α : Type} {l new : List α} {off : Nat} (h : off + new.length ≤ l.length) (j : Nat) :
    (l.take off ++ new ++ l.drop (off + new.length))[j]? = if j < off then l[j]? else if j < off + new.length then new[j - off]? else l[j]? := by
  have h1 : (l.take off).length = off := by simp; omega
  by_cases hj : j < off
  · rw [List.append_assoc, List.getElem?_append_left (by omega), List.getElem?_take]
    simp [hj]
  · by_cases hk : j < off + new.length
    · simp only [hj, hk, if_true, if_false]
      rw [List.append_assoc, List.getElem?_append_right (by omega), h1, List.getElem?_append_left (by omega)]
    · simp only [hj, hk, if_false]
      rw [List.getElem?_append_right (by simp; omega), List.getElem?_drop]
      congr 1
      simp
      omega
theorem put_length {α : Type} {l new : List α} {off : Nat} (h : off + new.length ≤ l.length) : (l.take off ++ new ++ l.drop (off + new.length)).length = l.length := by
  simp; omega
theorem RepL.put {h : Heap} {I : Nat → Prop} {G : Gn} {μ : Mu} {l r new : List AV} {vs us : List Value} {off : Nat} (R : RepL h I G μ l vs) (N : RepL h I G μ new us) (e : put? l off new = some r) :
    RepL h I G μ r (vs.take off ++ us ++ vs.drop (off + us.length)) := by
  obtain ⟨h1, rfl⟩ := put?_some e
  have hl := R.length
  have hn := N.length
  refine .of_get (by simp; omega) fun j a v ha hv => ?_
  rw [put_get h1] at ha
  rw [put_get (by omega), ← hn] at hv
  split at ha
  · rename_i hj
    simp only [hj, if_true] at hv
    obtain ⟨u, k1, k2⟩ := R.get j a ha
    rw [k1] at hv; cases hv; exact k2
  · rename_i hj
    simp only [hj, if_false] at hv
    split at ha
    · rename_i hk
      simp only [hk, if_true] at hv
      obtain ⟨u, k1, k2⟩ := N.get _ a ha
      rw [k1] at hv; cases hv; exact k2
    · rename_i hk
      simp only [hk, if_false] at hv
      obtain ⟨u, k1, k2⟩ := R.get j a ha
      rw [k1] at hv; cases hv; exact k2
theorem lookup_upds_i (s : St) (wr : List (Loc × AV)) (x : Loc) (v : AV) : upds s (wr ++ [(x, v)]) = upd (upds s wr) x v := by
  induction wr generalizing s with
  | nil => rfl
  | cons q r ih => exact ih _
theorem upds_append (s : St) (a b : List (Loc × AV)) : upds s (a ++ b) = upds (upds s a) b := by
  induction a generalizing s with
  | nil => rfl
  | cons q r ih => exact ih _
theorem upds_not {s : St} {wr : List (Loc × AV)} {x : Loc} (h : ∀ q ∈ wr, q.1 ≠ x) : upds s wr x = s x := by
  induction wr generalizing s with
  | nil => rfl
  | cons q r ih =>
    show upds (upd s q.1 q.2) r x = s x
    rw [ih fun q' hq => h q' (by simp [hq]), upd_ne _ _ (Ne.symm (h q (by simp)))]
theorem storeA_sound {P : Program} {F : Nat → Prop} {w : World} {μ : Mu} {s : St} (S : SRel w.heap F μ s) {t : TypeId} {p x : AV} {e : Eff} {l : List Loc} {pv xv : Value}
    (h : storeA P t p x s = some (e, l)) (Rp : RV F w μ s p pv) (Rx : RV F w μ s x xv) :
    ∃ w', (Instr.storeAt t pv xv).run P w = .ok () w' ∧ Post F w μ s e undef μ w' := by
  obtain ⟨ty, _, _, h1, h, _⟩ := bind_inv h
  obtain ⟨i, d, ti, td, t1, t2, t3, t4, t5⟩ := tyA_inv (lift_inv h1).1
  cases p with
  | ptr id g off =>
    obtain ⟨ent, _, _, h2, h, _⟩ := bind_inv h
    obtain ⟨rfl, _⟩ := rd_inv h2
    obtain ⟨_, _, Rp⟩ := Rp
    have H := S.ent id
    cases he : s (.i id) with
    | box g' cells =>
      rw [he] at H h
      obtain ⟨_, _, _, h3, h, _⟩ := bind_inv h
      have h3 := (need_inv h3).1
      simp only [Bool.and_eq_true, decide_eq_true_eq] at h3
      obtain ⟨hg, hlen, hcell⟩ := h3
      obtain ⟨cells', _, _, h4, h, _⟩ := bind_inv h
      have h4 := (lift_inv h4).1
      obtain ⟨rfl, _⟩ := pure_inv h
      obtain ⟨b, c, arr, el, k1, k2, k3, k4⟩ := H
      obtain ⟨b', c', k5, rfl⟩ := Rp (by simp only [Gs, he, gen, hg])
      rw [k1] at k5
      cases k5
      obtain ⟨N, N1⟩ := Rx.flat hcell
      have hsz : xv.cells.size = i.size := by have := N.length; simp at this; omega
      obtain ⟨p1, p2⟩ := put?_some h4
      have hal := k3.length
      have hnl := N.length
      have hrun := run_storeCells_at P b off el xv.cells.toList 0 arr w k2 (by simp only [Array.length_toList] at hal hnl ⊢; omega) N1
      simp only [Nat.add_zero] at hrun
      refine ⟨w.setRow b (arr.toList.take off ++ xv.cells.toList ++ arr.toList.drop (off + xv.cells.toList.length)).toArray, ?_, ?_⟩
      · simp only [Instr.storeAt, Instr.sureAddr, storeVar, Sem.run_bind, Sem.run_pure, Result.andThen_ok, run_sizeOf w ti, hsz]
        simp only [ne_eq, not_true_eq_false, if_false]
        exact hrun
      · have hm : isMut (s (.i id)) = true := by rw [he]; rfl
        have hs : (w.setRow b (arr.toList.take off ++ xv.cells.toList ++ arr.toList.drop (off + xv.cells.toList.length)).toArray).heap.size = w.heap.size := setRow_size _ _ _
        have hk : ∀ k, k ≠ b → (w.setRow b (arr.toList.take off ++ xv.cells.toList ++ arr.toList.drop (off + xv.cells.toList.length)).toArray).heap[k]? = w.heap[k]? := fun k hk => setRow_other _ _ _ _ hk
        have hgen : gen (s (.i id)) ≤ gen (.box g' cells') := by rw [he]; exact Nat.le_refl _
        have T := tr_write (ent := .box g' cells') k1 hm hs hk hgen
        refine ⟨?_, ⟨#[], rfl, trivial⟩, ⟨T, ⟨rfl, rfl, rfl⟩⟩, fun t => by simp only [upds, upd_i_t]⟩
        refine srel_write S k1 hm hs hk hgen ⟨b, c, _, el, rfl, setRow_heap _ _ _ _ _ _ k2, ?_, k4⟩
        exact RepL.put (RepL.mono (T.mono F) T.monoG _ _ k3) (RepL.mono (T.mono F) T.monoG _ _ N) h4
    | row g' sz pub cells =>
      rw [he] at H h
      obtain ⟨_, _, _, h3, hh, _⟩ := bind_inv h
      clear h
      have h3 := (need_inv h3).1
      simp only [Bool.and_eq_true, decide_eq_true_eq, Bool.not_eq_true'] at h3
      obtain ⟨hg, rfl, hlen⟩ := h3
      obtain ⟨⟨y, wr⟩, _, _, h4, h, _⟩ := bind_inv hh
      obtain ⟨_, _, _, h5, h, _⟩ := bind_inv h
      have h5 := (need_inv h5).1
      obtain ⟨ps, _, _, h6, h, _⟩ := bind_inv h
      have h6 := (lift_inv h6).1
      obtain ⟨cells', _, _, h7, h, _⟩ := bind_inv h
      have h7 := (lift_inv h7).1
      obtain ⟨rfl, _⟩ := pure_inv h
      obtain ⟨S1, T1, D1, t1', i1⟩ := pub_state S (pubV_w h4)
      have Ry := pubV_val S T1 h4 D1 Rx
      have hnot : ∀ q ∈ wr, q.1 ≠ .i id := fun q hq => of_decide_eq_true (List.all_eq_true.1 h5 q hq)
      have he1 : upds s wr (.i id) = .row g' sz false cells := by rw [upds_not hnot, he]
      have hcell : (flat y).all isCell = true := by
        have : ∀ {l : List AV} {ps : List PV}, pureCells l = some ps → l.all isCell = true := by
          intro l
          induction l with
          | nil => intro _ _; rfl
          | cons a l ih =>
            intro ps e
            cases a with
            | pv p =>
              unfold pureCells at e
              split at e
              · rename_i hq
                simp only [List.all_cons, isCell, Bool.true_and]
                exact ih hq
              · cases e
            | _ => cases e
        exact this h6
      obtain ⟨N, N1⟩ := Ry.flat hcell
      obtain ⟨q1, q2, q3, _⟩ := pureCells_rep h6 N
      have hxl : xv.cells.size = i.size := by
        -- the size of the value that came in
        have hf : (flat y).length = (flat x).length := by
          cases x with
          | agg l =>
            obtain ⟨⟨w', p'⟩, _, _, g1, g2, _⟩ := bind_inv h4
            obtain ⟨g2, _⟩ := pure_inv g2
            cases g2
            have : ∀ {l u : List AV} {wr : List (Loc × AV)} {ll : List Loc}, pub1s l s = some ((u, wr), ll) → u.length = l.length := by
              intro l
              induction l with
              | nil => intro u wr ll g; obtain ⟨g, _⟩ := pure_inv g; cases g; rfl
              | cons a l ih =>
                intro u wr ll g
                obtain ⟨⟨_, _⟩, _, _, _, g, _⟩ := bind_inv g
                obtain ⟨⟨_, _⟩, _, _, g2, g, _⟩ := bind_inv g
                obtain ⟨g, _⟩ := pure_inv g
                cases g
                simp [ih g2]
            exact this g1
          | _ =>
            have : ∀ {v u : AV} {wr : List (Loc × AV)} {ll : List Loc}, pub1 v s = some ((u, wr), ll) → (∀ l, v ≠ .agg l) → (flat u).length = 1 := by
              intro v u wr ll g hne
              cases v with
              | osl id g' n =>
                obtain ⟨e, _, _, g1, g, _⟩ := bind_inv g
                cases e with
                | row a b c d =>
                  simp only at g
                  split at g
                  · obtain ⟨g, _⟩ := pure_inv g; cases g; rfl
                  · exact (fail_inv g).elim
                | _ => exact (fail_inv g).elim
              | any => exact (fail_inv (s := s) g).elim
              | box _ _ => exact (fail_inv (s := s) g).elim
              | row _ _ _ _ => exact (fail_inv (s := s) g).elim
              | agg l => exact (hne l rfl).elim
              | _ => obtain ⟨g, _⟩ := pure_inv (s := s) g; cases g; rfl
            unfold pubV at h4
            exact this h4 (fun l e => by cases e)
        have := N.length
        simp only [Array.length_toList] at this
        omega
      obtain ⟨b, c, arr, el, k1, k2, k3, k4, k5, k6⟩ := H
      obtain ⟨b', c', k7, rfl⟩ := Rp (by simp only [Gs, he, gen, hg])
      rw [k1] at k7
      cases k7
      obtain ⟨p1, p2⟩ := put?_some h7
      have hrun := run_storeCells_at P b off el xv.cells.toList 0 arr w k2 (by simp only [Array.length_toList] at q2 ⊢; omega) N1
      simp only [Nat.add_zero] at hrun
      refine ⟨w.setRow b (arr.toList.take off ++ xv.cells.toList ++ arr.toList.drop (off + xv.cells.toList.length)).toArray, ?_, ?_⟩
      · simp only [Instr.storeAt, Instr.sureAddr, storeVar, Sem.run_bind, Sem.run_pure, Result.andThen_ok, run_sizeOf w ti, hxl]
        simp only [ne_eq, not_true_eq_false, if_false]
        exact hrun
      · have hm : isMut (upds s wr (.i id)) = true := by rw [he1]; rfl
        have hs : (w.setRow b (arr.toList.take off ++ xv.cells.toList ++ arr.toList.drop (off + xv.cells.toList.length)).toArray).heap.size = w.heap.size := setRow_size _ _ _
        have hk : ∀ k, k ≠ b → (w.setRow b (arr.toList.take off ++ xv.cells.toList ++ arr.toList.drop (off + xv.cells.toList.length)).toArray).heap[k]? = w.heap[k]? := fun k hk => setRow_other _ _ _ _ hk
        have hgen : gen (upds s wr (.i id)) ≤ gen (.row g' sz false cells') := by rw [he1]; exact Nat.le_refl _
        have T := tr_write (ent := .row g' sz false cells') k1 hm hs hk hgen
        have E : upds s (wr ++ [(.i id, .row g' sz false cells')]) = upd (upds s wr) (.i id) (.row g' sz false cells') := lookup_upds_i _ _ _ _
        refine ⟨?_, ⟨#[], rfl, trivial⟩, ?_, fun t => ?_⟩
        · show SRel _ _ _ (upds s (wr ++ [(.i id, .row g' sz false cells')]))
          rw [E]
          refine srel_write S1 k1 hm hs hk hgen ⟨b, c, _, el, rfl, setRow_heap _ _ _ _ _ _ k2, ?_, ?_, fun j p hp => ?_, k6⟩
          · simp only [List.size_toArray]
            rw [put_length (by simp only [Array.length_toList] at q2 ⊢; omega)]
            exact k3
          · rw [p2, put_length p1]; exact k4
          · rw [p2, put_get p1] at hp
            simp only [List.getElem?_toArray]
            rw [put_get (by simp only [Array.length_toList] at q2 ⊢; omega), ← q2] at *
            split at hp
            · rename_i hj
              obtain ⟨v, v1, v2⟩ := k5 j p hp
              simp only [hj, if_true]
              exact ⟨v, by simpa using v1, RepP.mono ((T1.trans T).mono F) p v v2⟩
            · rename_i hj
              simp only [hj, if_false]
              split at hp
              · rename_i hj2
                simp only [hj2, if_true]
                obtain ⟨v, v1, v2⟩ := q3 _ p hp
                exact ⟨v, v1, RepP.mono (T.mono F) p v v2⟩
              · rename_i hj2
                simp only [hj2, if_false]
                obtain ⟨v, v1, v2⟩ := k5 j p hp
                exact ⟨v, by simpa using v1, RepP.mono ((T1.trans T).mono F) p v v2⟩
        · refine ⟨?_, ⟨rfl, rfl, rfl⟩⟩
          show Tr _ _ _ _ _ (upds s (wr ++ [(.i id, .row g' sz false cells')]))
          rw [E]; exact T1.trans T
        · show upds s (wr ++ [(.i id, .row g' sz false cells')]) (.t t) = _
          rw [E, upd_i_t]; exact t1' t
    | _ => rw [he] at h; exact (fail_inv h).elim
  | _ => exact (fail_inv h).elim
end Go.Am
/-
Operations, third part: aggregates, new rows, make, append.
-/
namespace Go.Am
open Go
/-! ### aggregates -/
theorem splice_list : ∀ (l : List Value) (off k : Nat) (arr : Array Value), off + k + l.length ≤ arr.size →
    ((l.zipIdx k).foldl (fun cs x => cs.setIfInBounds (off + x.2) x.1) arr).toList = arr.toList.take (off + k) ++ l ++ arr.toList.drop (off + k + l.length)
  | [], off, k, arr, _ => by simp
  | v :: l, off, k, arr, h => by
    simp only [List.zipIdx_cons, List.foldl_cons]
    rw [splice_list l off (k + 1) _ (by simp at h ⊢; omega)]
    have := list_seg_step arr.toList (off + k) v l (by simp at h ⊢; omega)
    simp only [Array.toList_setIfInBounds, List.length_cons]
    rw [show off + (k + 1) = off + k + 1 by omega]
    exact this
theorem fill_step (v : Value) (off : Nat) (cells : Array Value) (h : off + v.cells.size ≤ cells.size) :
    (v.cells.zipIdx.foldl (fun cs (c, j) => cs.setIfInBounds (off + j) c) cells).toList = cells.toList.take off ++ v.cells.toList ++ cells.toList.drop (off + v.cells.toList.length) := by
  have := splice_list v.cells.toList off 0 cells (by simpa using h)
  rw [← Array.foldl_toList, Array.toList_zipIdx]
  simpa using this
theorem fillA_sound {h : Heap} {I : Nat → Prop} {G : Gn} {μ : Mu} (place : Nat → Option (Nat × Nat)) : ∀ {parts : List (Nat × AV)} {vparts : List (Nat × Value)} {cells r : List AV} {arr : Array Value},
    RepParts h I G μ parts vparts → RepL h I G μ cells arr.toList → fillA place cells parts = some r → ∃ arr', Instr.fill place arr vparts = some arr' ∧ RepL h I G μ r arr'.toList
  | [], [], cells, r, arr, _, R, e => by cases e; exact ⟨arr, rfl, R⟩
  | (i, a) :: as, (j, v) :: vs, cells, r, arr, Q, R, e => by
    obtain ⟨rfl, Ra, Q⟩ := Q
    unfold fillA at e
    unfold Instr.fill
    split at e
    · cases e
    · rename_i off size hp
      simp only [hp]
      split at e
      · rename_i hc
        simp only [Bool.and_eq_true, decide_eq_true_eq] at hc
        split at e
        · rename_i c hput
          obtain ⟨N, _⟩ := Ra.flat hc.2
          have h1 := N.length
          have h2 := R.length
          obtain ⟨p1, _⟩ := put?_some hput
          simp only [Array.length_toList] at h1 h2
          have hs : v.cells.size = size := by omega
          have hb : off + v.cells.size ≤ arr.size := by omega
          have hcond : (v.cells.size ≠ size || off + v.cells.size > arr.size) = false := by simp [hs]; omega
          rw [hcond]
          simp only [Bool.false_eq_true, if_false]
          refine fillA_sound place Q ?_ e
          rw [fill_step v off arr hb]
          exact RepL.put R N hput
        · cases e
      · cases e
  | [], _ :: _, _, _, _, Q, _, _ => Q.elim
  | _ :: _, [], _, _, _, Q, _, _ => Q.elim
theorem run_places {P : Program} (w : World) : ∀ {fs : List Field} {pl : List (Nat × Nat)}, placesA P (fs.map fun x => (x.type, x.offset)) = some pl →
    (fs.mapM (fun f => (do pure (f.offset, ← sizeOf f.type) : Sem (Nat × Nat)))).run P w = .ok pl w
  | [], pl, e => by cases e; rfl
  | f :: fs, pl, e => by
    unfold placesA at e
    simp only [List.map_cons] at e
    split at e
    · cases e
    · rename_i ty ht
      split at e
      · rename_i l hl
        cases e
        obtain ⟨i, d, h1, _, h3, _⟩ := tyA_inv ht
        simp only [List.mapM_cons, Sem.run_bind, run_sizeOf w h1, Result.andThen_ok, Sem.run_pure, run_places w hl, h3]
      · cases e
theorem buildA_sound {P : Program} {F : Nat → Prop} {w : World} {μ : Mu} {s : St} (S : SRel w.heap F μ s) {t : TypeId} {parts : List (Nat × AV)} {vparts : Array (Nat × Value)} {e : Eff} {l : List Loc}
    (h : buildA P t parts s = some (e, l)) (Q : RepParts w.heap (Imm w.heap F μ s) (Gs s) μ parts vparts.toList) : ∃ v, (Instr.build t vparts).run P w = .ok v w ∧ Post F w μ s e v μ w := by
  obtain ⟨ty, _, _, h1, h, _⟩ := bind_inv h
  obtain ⟨i, d, ti, td, t1, t2, t3, t4, t5⟩ := tyA_inv (lift_inv h1).1
  obtain ⟨z, _, _, h2, h, _⟩ := bind_inv h
  have h2 := (lift_inv h2).1
  rw [t5] at h2
  obtain ⟨zv, hz, hz2⟩ := Option.bind_eq_some_iff.1 h2
  have Rz : RepL w.heap (Imm w.heap F μ s) (Gs s) μ z zv.cells.toList := cellsOf_rep hz2
  rw [t4] at h
  cases hd : tdOf d with
  | struct fs =>
    rw [hd] at h
    obtain ⟨f, rfl, rfl⟩ := td_struct hd
    obtain ⟨pl, _, _, h3, h, _⟩ := bind_inv h
    have h3 := (lift_inv h3).1
    obtain ⟨c, _, _, h4, h, _⟩ := bind_inv h
    have h4 := (lift_inv h4).1
    obtain ⟨_, _, _, h5, h, _⟩ := bind_inv h
    obtain ⟨rfl, _⟩ := ret_inv h
    obtain ⟨arr, k1, k2⟩ := fillA_sound (pl[·]?) Q Rz h4
    refine ⟨.agg arr, ?_, post_ret S rfl ⟨_, rfl, k2⟩⟩
    have hp := run_places (P := P) w h3
    simp only [Instr.build, Sem.run_bind, run_zeroValue w ti hz, Result.andThen_ok, run_underlying w td]
    rw [← Array.toList_mapM] at hp
    simp only [Sem.run_map] at hp
    cases hm : (f.mapM (fun f => (do pure (f.offset, ← sizeOf f.type) : Sem (Nat × Nat)))).run P w with
    | halt x y => rw [hm] at hp; cases hp
    | ok pa w2 =>
      rw [hm] at hp
      simp only [Result.andThen_ok, Result.ok.injEq] at hp
      obtain ⟨rfl, rfl⟩ := hp
      simp only [Result.andThen_ok]
      have : (fun (i : Nat) => pa[i]?) = (fun (i : Nat) => pa.toList[i]?) := by funext i; simp
      rw [this, k1]
      rfl
  | array n el =>
    rw [hd] at h
    have hd := td_array hd
    subst hd
    obtain ⟨te, _, _, h3, h, _⟩ := bind_inv h
    obtain ⟨i', d', ti', _, t1', _⟩ := tyA_inv (lift_inv h3).1
    obtain ⟨c, _, _, h4, h, _⟩ := bind_inv h
    have h4 := (lift_inv h4).1
    obtain ⟨_, _, _, h5, h, _⟩ := bind_inv h
    obtain ⟨rfl, _⟩ := ret_inv h
    obtain ⟨arr, k1, k2⟩ := fillA_sound _ Q Rz h4
    refine ⟨.agg arr, ?_, post_ret S rfl ⟨_, rfl, k2⟩⟩
    simp only [Instr.build, Sem.run_bind, run_zeroValue w ti hz, Result.andThen_ok, run_underlying w td, run_sizeOf w ti']
    rw [t1'] at k1
    rw [k1]
    rfl
  | _ => rw [hd] at h; exact (fail_inv h).elim
/-! ### new rows -/
theorem gen_pub {s : St} {wr : List (Loc × AV)} {id : Id} (i1 : upds s wr (.i id) = s (.i id) ∨ ∃ g sz p cs, s (.i id) = .row g sz p cs ∧ upds s wr (.i id) = .row g sz true cs) :
    gen (upds s wr (.i id)) = gen (s (.i id)) := by
  rcases i1 with e | ⟨g, sz, p, cs, e1, e2⟩
  · rw [e]
  · rw [e1, e2]; rfl
theorem newRow_sound {F : Nat → Prop} {w w' : World} {μ : Mu} {s : St} (S : SRel w.heap F μ s) {r o n sz c : Nat} {cells : List PV} {wr : List (Loc × AV)} {arr : Array Value} {el : TypeId} {e : Eff} {l : List Loc}
    (W : PubW s wr) (h : newRowA r o n sz cells wr s = some (e, l)) (hh : w'.heap = w.heap.push (.cells arr el)) (hio : Io w w') (hsz : arr.size = c * sz) (hlen : cells.length ≤ c * sz) (hn : n ≤ c)
    (R : ∀ (j : Nat) p, cells[j]? = some p → ∃ v, arr[j]? = some v ∧ RepP w.heap (Imm w.heap F μ (upds s wr)) p v) :
    ∃ μ', Post F w μ s e (.slice (some ⟨w.heap.size, 0, none⟩) n c) μ' w' := by
  obtain ⟨x, _, _, h2, h, _⟩ := bind_inv h
  obtain ⟨rfl, _⟩ := rd_inv h2
  obtain ⟨rfl, _⟩ := pure_inv h
  obtain ⟨S1, T1, D1, t1, i1⟩ := pub_state S W
  have hg : gen (upds s wr (.i (.site r o 0))) < gen (.row (gen (s (.i (.site r o 0))) + 1) sz false cells) := by rw [gen_pub (i1 _)]; exact Nat.lt_succ_self _
  have T := tr_new (h := w.heap) (μ := μ) (upds s wr) (o := .cells arr el) (c := c) hg
  have E : upds s (wr ++ [(.i (.site r o 0), .row (gen (s (.i (.site r o 0))) + 1) sz false cells)]) = upd (upds s wr) (.i (.site r o 0)) (.row (gen (s (.i (.site r o 0))) + 1) sz false cells) := lookup_upds_i _ _ _ _
  refine ⟨setMu μ (.site r o 0) (w.heap.size, c), ?_, ?_, ?_, fun t => ?_⟩
  · rw [hh]
    show SRel _ _ _ (upds s (wr ++ _))
    rw [E]
    refine srel_new S1 hg ⟨_, _, arr, el, rfl, by simp, hsz, hlen, fun j p hp => ?_, fun hf => Nat.lt_irrefl _ (S.low _ hf)⟩
    obtain ⟨v, hv, hr⟩ := R j p hp
    exact ⟨v, hv, RepP.mono (T.mono F) p v hr⟩
  · rw [hh]
    show RepV _ (Imm _ _ _ (upds s (wr ++ _))) (Gs (upds s (wr ++ _))) _ _ _
    rw [E]
    refine ⟨?_, ⟨_, _, _, rfl⟩, fun _ => ⟨_, _, setMu_self _ _ _, rfl, hn⟩⟩
    simp only [Gs, upd_self, gen]
    exact Nat.le_refl _
  · refine ⟨?_, hio⟩
    rw [hh]
    show Tr _ _ _ _ _ (upds s (wr ++ _))
    rw [E]
    exact T1.trans T
  · show upds s (wr ++ _) _ = _
    rw [E, upd_i_t]
    exact t1 t
/-- zero values -/
theorem zeroCell_rep {h : Heap} {I : Nat → Prop} {v : Value} {a : AV} {p : PV} (e : cellOf v = some a) (z : zeroCell a = some p) : RepP h I p v := by
  have := cellOf_rep (h := h) (I := I) (G := fun _ => 0) (μ := fun _ => none) e
  cases a with
  | pv q => cases z; exact this
  | nilsl => cases z; cases this; exact ⟨none, 0, rfl, Nat.le_refl _, .inl rfl⟩
  | _ => cases z
theorem zeroCells_rep {h : Heap} {I : Nat → Prop} {G : Gn} {μ : Mu} : ∀ {vs : List Value} {l : List AV} {ps : List PV}, cellsOf vs = some l → zeroCells l = some ps → RepL h I G μ (ps.map .pv) vs ∧ ps.length = l.length
  | [], _, _, e, z => by cases e; cases z; exact ⟨trivial, rfl⟩
  | v :: vs, l, ps, e, z => by
    unfold cellsOf at e
    split at e
    · cases e
    · rename_i a ha
      split at e
      · cases e
      · rename_i l' hl
        cases e
        unfold zeroCells at z
        split at z
        · rename_i p ps' h1 h2
          cases z
          obtain ⟨k1, k2⟩ := zeroCells_rep (h := h) (I := I) (G := G) (μ := μ) hl h2
          exact ⟨⟨zeroCell_rep ha h1, k1⟩, by simp [k2]⟩
        · cases z
theorem repeatA_length {α : Type} (l : List α) : ∀ n, (repeatA l n).length = n * l.length
  | 0 => by simp [repeatA]
  | n + 1 => by simp [repeatA, repeatA_length l n, Nat.succ_mul, Nat.add_comm]
theorem repeatA_map {α β : Type} (f : α → β) (l : List α) : ∀ n, (repeatA l n).map f = repeatA (l.map f) n
  | 0 => rfl
  | n + 1 => by simp [repeatA, repeatA_map f l n]
theorem repeatA_range (z : List Value) (hz : 0 < z.length) : ∀ n, (List.range (n * z.length)).map (fun j => z[j % z.length]!) = repeatA z n
  | 0 => by simp [repeatA]
  | n + 1 => by
    rw [Nat.succ_mul, Nat.add_comm, List.range_add, List.map_append, List.map_map, repeatA, ← repeatA_range z hz n]
    congr 1
    · apply List.ext_getElem?
      intro j
      by_cases hj : j < z.length
      · simp [hj, Nat.mod_eq_of_lt hj]
      · simp [hj, List.getElem?_eq_none (Nat.le_of_not_lt hj)]
    · apply List.map_congr_left
      intro j _
      simp
theorem zero_row (z : Array Value) (hz : 0 < z.size) (n : Nat) : ((Array.range (n * z.size)).map (fun j => z[j % z.size]!)).toList = repeatA z.toList n := by
  rw [← repeatA_range z.toList (by simpa using hz)]
  simp only [Array.toList_map, Array.toList_range, Array.length_toList]
  apply List.map_congr_left
  intro a _
  rw [getElem!_def, getElem!_def, Array.getElem?_toList]
theorem RepL.repeatA {h : Heap} {I : Nat → Prop} {G : Gn} {μ : Mu} {l : List AV} {vs : List Value} (R : RepL h I G μ l vs) : ∀ n, RepL h I G μ (Am.repeatA l n) (Am.repeatA vs n)
  | 0 => trivial
  | n + 1 => R.append (RepL.repeatA R n)
theorem sliceElem_inv {P : Program} {t : TypeId} {s : St} {e : TypeId} {te : TyA} {l : List Loc} (h : sliceElem P t s = some ((e, te), l)) :
    P.underlying t = some (.slice e) ∧ tyA P e = some te := by
  obtain ⟨ty, _, _, h1, h, _⟩ := bind_inv h
  obtain ⟨i, d, ti, td, t1, t2, t3, t4, t5⟩ := tyA_inv (lift_inv h1).1
  rw [t4] at h
  cases hd : tdOf d with
  | slice e' =>
    rw [hd] at h
    obtain ⟨te', _, _, h2, h, _⟩ := bind_inv h
    obtain ⟨h, _⟩ := pure_inv h
    cases h
    rw [td_slice hd] at td
    exact ⟨td, (lift_inv h2).1⟩
  | _ => rw [hd] at h; exact (fail_inv h).elim
theorem zeroP_inv {P : Program} {e : TypeId} {te : TyA} {s : St} {z : List PV} {l : List Loc} (ht : tyA P e = some te) (h : zeroP te s = some (z, l)) :
    ∃ i zv, P.info? e = some i ∧ i.zero = some zv ∧ te.sz = i.size ∧ zv.cells.size = te.sz ∧ z.length = te.sz ∧ ∀ (h : Heap) (I : Nat → Prop) (G : Gn) (μ : Mu), RepL h I G μ (z.map .pv) zv.cells.toList := by
  obtain ⟨i, d, ti, td, t1, t2, t3, t4, t5⟩ := tyA_inv ht
  obtain ⟨z0, _, _, h1, h, _⟩ := bind_inv h
  have h1 := (lift_inv h1).1
  obtain ⟨_, _, _, h2, h, _⟩ := bind_inv h
  have h2 := of_decide_eq_true (need_inv h2).1
  have h := (lift_inv h).1
  rw [t5] at h1
  obtain ⟨zv, hz, hz2⟩ := Option.bind_eq_some_iff.1 h1
  have hl := (cellsOf_rep (h := #[]) (I := fun _ => True) (G := fun _ => 0) (μ := fun _ => none) hz2).length
  obtain ⟨_, k2⟩ := zeroCells_rep (h := #[]) (I := fun _ => True) (G := fun _ => 0) (μ := fun _ => none) hz2 h
  refine ⟨i, zv, ti, hz, t1, by simpa using (hl.symm.trans h2), k2.trans h2, fun h' I G μ => (zeroCells_rep hz2 h).1⟩
theorem RepL.pure_get {h : Heap} {I : Nat → Prop} {G : Gn} {μ : Mu} {ps : List PV} {vs : List Value} (R : RepL h I G μ (ps.map .pv) vs) (j : Nat) (p : PV) (hp : ps[j]? = some p) : ∃ v, vs[j]? = some v ∧ RepP h I p v := by
  have := R.get j (.pv p) (by simp [hp])
  exact this
theorem buildSliceA_sound {P : Program} {F : Nat → Prop} {w : World} {μ : Mu} {s : St} (S : SRel w.heap F μ s) {r o : Nat} {t : TypeId} {n : Nat} {parts : List (Nat × AV)} {vparts : Array (Nat × Value)} {e : Eff} {l : List Loc}
    (h : buildSliceA P r o t n parts s = some (e, l)) (Q : RepParts w.heap (Imm w.heap F μ s) (Gs s) μ parts vparts.toList) :
    ∃ v μ' w', (Instr.buildSlice t n vparts).run P w = .ok v w' ∧ Post F w μ s e v μ' w' := by
  obtain ⟨⟨el, te⟩, _, _, h1, h, _⟩ := bind_inv h
  obtain ⟨u1, u2⟩ := sliceElem_inv h1
  obtain ⟨_, _, _, h2, h, _⟩ := bind_inv h
  have h2 := (need_inv h2).1
  simp only [Bool.and_eq_true, decide_eq_true_eq] at h2
  obtain ⟨z, _, _, h3, h, _⟩ := bind_inv h
  obtain ⟨i, zv, ti, hz, t1, z1, z2, Rz⟩ := zeroP_inv u2 h3
  obtain ⟨⟨ps, wr⟩, _, _, h4, h, _⟩ := bind_inv h
  obtain ⟨c, _, _, h5, h, _⟩ := bind_inv h
  have h5 := (lift_inv h5).1
  obtain ⟨cs, _, _, h6, h, _⟩ := bind_inv h
  have h6 := (lift_inv h6).1
  obtain ⟨S1, T1, D1, t1', i1⟩ := pub_state S (pubParts_w h4)
  have Q1 := pubParts_val S T1 h4 D1 Q
  have hzz : (zv.cells.size : Nat) = i.size := by omega
  obtain ⟨z0, hz0⟩ : ∃ z0 : Array Value, z0 = if n * i.size = 0 then #[] else zv.cells := ⟨_, rfl⟩
  have hzl : ((Array.range (n * i.size)).map (fun j => z0[j % z0.size]!)).toList = repeatA zv.cells.toList n := by
    by_cases hn : n * i.size = 0
    · have : n = 0 := by
        rcases Nat.mul_eq_zero.1 hn with h | h
        · exact h
        · omega
      subst this
      simp [repeatA]
    · rw [hz0, if_neg hn, ← hzz]
      exact zero_row _ (by omega) n
  have R0 : RepL w.heap (Imm w.heap F μ (upds s wr)) (Gs (upds s wr)) μ ((repeatA z n).map .pv) ((Array.range (n * i.size)).map (fun j => z0[j % z0.size]!)).toList := by
    rw [hzl, repeatA_map]
    exact RepL.repeatA (Rz _ _ _ _) n
  rw [t1] at h5
  obtain ⟨arr, k1, k2⟩ := fillA_sound _ Q1 R0 h5
  have hcs := pureCells_rep h6 k2
  have hlen : arr.size = n * te.sz := by
    have e1 := k2.length
    have e2 : c.length = n * te.sz := by
      have : ∀ {place : Nat → Option (Nat × Nat)} {parts : List (Nat × AV)} {cells r : List AV}, fillA place cells parts = some r → r.length = cells.length := by
        intro place parts
        induction parts with
        | nil => intro cells r e; cases e; rfl
        | cons q parts ih =>
          intro cells r e
          obtain ⟨i, v⟩ := q
          unfold fillA at e
          split at e
          · cases e
          · split at e
            · split at e
              · rename_i hput
                obtain ⟨p1, p2⟩ := put?_some hput
                rw [ih e, p2, put_length p1]
              · cases e
            · cases e
      rw [this h5, List.length_map, repeatA_length, z2]
    simp at e1
    omega
  have hrun : (Instr.buildSlice t n vparts).run P w = .ok (.slice (some ⟨w.heap.size, 0, none⟩) n n) { w with heap := w.heap.push (.cells arr el) } := by
    have hle : ¬ (n * i.size > 2 ^ 24) := by rw [← t1]; exact Nat.not_lt.2 h2.1
    have hpl : (Instr.fill (fun j => some (j * i.size, i.size)) ((Array.range (n * i.size)).map (fun j => z0[j % z0.size]!)) vparts.toList) = some arr := k1
    simp only [Instr.buildSlice, Sem.run_bind, run_underlying w u1, Result.andThen_ok, run_sizeOf w ti]
    rw [if_neg hle]
    by_cases hn : n * i.size = 0
    · rw [if_pos hn] at hz0
      subst hz0
      rw [if_pos hn]
      simp only [Sem.run_bind, Sem.run_pure, Result.andThen_ok, hpl, newRow, run_newObj]
    · rw [if_neg hn] at hz0
      subst hz0
      rw [if_neg hn]
      simp only [Sem.run_bind, Sem.run_pure, Result.andThen_ok, hpl, newRow, run_newObj, run_zeroValue w ti hz]
  obtain ⟨μ', hP⟩ := newRow_sound (w' := { w with heap := w.heap.push (.cells arr el) }) (c := n) S (pubParts_w h4) h rfl ⟨rfl, rfl, rfl⟩ hlen (by
    have h7 : arr.toList.length = cs.length := hcs.2.1
    rw [Array.length_toList] at h7
    omega) (Nat.le_refl _) (fun j p hp => by
      obtain ⟨v, v1, v2⟩ := hcs.2.2.1 j p hp
      exact ⟨v, by simpa using v1, v2⟩)
  exact ⟨_, μ', _, hrun, hP⟩
theorem intOfA_sound {h : Heap} {I : Nat → Prop} {G : Gn} {μ : Mu} {a : AV} {n : Int} {s : St} {l : List Loc} {v : Value} (e : intOfA a s = some (n, l)) (R : RepV h I G μ a v) : ∃ k, v = .int k n ∧ a = .pv (.int k n) := by
  cases a with
  | pv p =>
    cases p with
    | int k m =>
      obtain ⟨rfl, _⟩ := pure_inv (s := s) e
      exact ⟨k, R, rfl⟩
    | _ => exact (fail_inv (s := s) e).elim
  | _ => exact (fail_inv (s := s) e).elim
theorem makeSliceA_sound {P : Program} {F : Nat → Prop} {w : World} {μ : Mu} {s : St} (S : SRel w.heap F μ s) {r o : Nat} {t : TypeId} {a b : AV} {va vb : Value} {e : Eff} {l : List Loc}
    (h : makeSliceA P r o t a b s = some (e, l)) (Ra : RV F w μ s a va) (Rb : RV F w μ s b vb) :
    ∃ v μ' w', (Instr.makeSlice t va vb).run P w = .ok v w' ∧ Post F w μ s e v μ' w' := by
  obtain ⟨⟨el, te⟩, _, _, h1, h, _⟩ := bind_inv h
  obtain ⟨u1, u2⟩ := sliceElem_inv h1
  obtain ⟨n, _, _, h2, h, _⟩ := bind_inv h
  obtain ⟨ka, rfl, _⟩ := intOfA_sound h2 Ra
  obtain ⟨c, _, _, h3, h, _⟩ := bind_inv h
  obtain ⟨kb, rfl, _⟩ := intOfA_sound h3 Rb
  obtain ⟨_, _, _, h4, h, _⟩ := bind_inv h
  have h4 := (need_inv h4).1
  simp only [Bool.and_eq_true, decide_eq_true_eq] at h4
  obtain ⟨q1, q2, q3, q4, q5⟩ := h4
  obtain ⟨z, _, _, h5, h, _⟩ := bind_inv h
  obtain ⟨i, zv, ti, hz, t1, z1, z2, Rz⟩ := zeroP_inv u2 h5
  obtain ⟨i', d', ti', _, _, t2', _⟩ := tyA_inv u2
  rw [ti] at ti'
  cases ti'
  have wl : IntKind.i64.wrap n = n := IntWalk.i64_in _ (by omega)
  have wc : IntKind.i64.wrap c = c := IntWalk.i64_in _ (by omega)
  have hzz : (zv.cells.size : Nat) = i.size := by omega
  obtain ⟨z0, hz0⟩ : ∃ z0 : Array Value, z0 = if c.toNat * i.size = 0 then #[] else zv.cells := ⟨_, rfl⟩
  have hzl : ((Array.range (c.toNat * i.size)).map (fun j => z0[j % z0.size]!)).toList = repeatA zv.cells.toList c.toNat := by
    by_cases hn : c.toNat * i.size = 0
    · have : c.toNat = 0 := by
        rcases Nat.mul_eq_zero.1 hn with h | h
        · exact h
        · omega
      rw [this]
      simp [repeatA]
    · rw [hz0, if_neg hn, ← hzz]
      exact zero_row _ (by omega) c.toNat
  have hrun : (Instr.makeSlice t (.int ka n) (.int kb c)).run P w = .ok (.slice (some ⟨w.heap.size, 0, none⟩) n.toNat c.toNat) { w with heap := w.heap.push (.cells ((Array.range (c.toNat * i.size)).map (fun j => z0[j % z0.size]!)) el) } := by
    have c1 : ¬ (c < 0 || (i.bytes : Int) * c > 2 ^ 48) = true := by
      rw [← t2']
      simp only [Bool.or_eq_true, decide_eq_true_eq]
      omega
    have c2 : ¬ (((decide (c < 0) || decide ((i.bytes : Int) * c > 2 ^ 48)) || decide (n < 0)) || decide (n > c)) = true := by
      simp only [Bool.or_eq_true, decide_eq_true_eq] at c1 ⊢
      omega
    simp only [Instr.makeSlice, Sem.run_bind, run_underlying w u1, Result.andThen_ok, asInt, asIntOf, Sem.run_pure, run_typeInfo w ti, wl, wc]
    rw [if_neg c2]
    by_cases hn : c.toNat * i.size = 0
    · simp only [Sem.run_bind, Sem.run_pure, run_askRoom, Result.andThen_ok, run_sizeOf w ti, hz0, hn, if_true, newRow, run_newObj]
    · simp only [Sem.run_bind, Sem.run_pure, run_askRoom, Result.andThen_ok, run_sizeOf w ti, hz0, hn, if_false, newRow, run_newObj, run_zeroValue w ti hz]
  obtain ⟨μ', hP⟩ := newRow_sound (w' := { w with heap := w.heap.push (.cells ((Array.range (c.toNat * i.size)).map (fun j => z0[j % z0.size]!)) el) }) (c := c.toNat) S (PubW.nil s) h rfl ⟨rfl, rfl, rfl⟩
    (by simp [t1]) (by rw [repeatA_length, z2]; exact Nat.le_refl _) (by omega) (fun j p hp => by
      have R0 : RepL w.heap (Imm w.heap F μ s) (Gs s) μ ((repeatA z c.toNat).map .pv) ((Array.range (c.toNat * i.size)).map (fun j => z0[j % z0.size]!)).toList := by
        rw [hzl, repeatA_map]
        exact RepL.repeatA (Rz _ _ _ _) _
      obtain ⟨v, v1, v2⟩ := R0.pure_get j p hp
      exact ⟨v, by rw [← Array.getElem?_toList]; exact v1, v2⟩)
  exact ⟨_, μ', _, hrun, hP⟩
end Go.Am
/-
Operations, fourth part: append.
-/
namespace Go.Am
open Go
theorem rowOf_sound {F : Nat → Prop} {w : World} {μ : Mu} {s : St} (S : SRel w.heap F μ s) {x : AV} {v : Value} {n : Nat} {cells : List PV} {l : List Loc} (h : rowOf x s = some ((n, cells), l)) (R : RV F w μ s x v) :
    ∃ a cap, v = .slice a n cap ∧ n ≤ cap ∧ (cells = [] ∨ ∃ b off, a = some ⟨b, off, none⟩ ∧ RepRow w.heap (Imm w.heap F μ s) b off cells) := by
  cases x with
  | pv p =>
    cases p with
    | sl m cs =>
      obtain ⟨h, _⟩ := pure_inv (s := s) h
      cases h
      obtain ⟨a, cap, rfl, k1, k2⟩ := R
      refine ⟨a, cap, rfl, k1, ?_⟩
      rcases k2 with k2 | ⟨b, off, k2, _, k3⟩
      · exact .inl k2
      · exact .inr ⟨b, off, k2, k3⟩
    | _ => exact (fail_inv (s := s) h).elim
  | nilsl =>
    obtain ⟨h, _⟩ := pure_inv (s := s) h
    cases h
    cases R
    exact ⟨none, 0, rfl, Nat.le_refl _, .inl rfl⟩
  | osl id g m =>
    obtain ⟨e, _, _, h1, h, _⟩ := bind_inv h
    obtain ⟨rfl, _⟩ := rd_inv h1
    have H := S.ent id
    cases he : s (.i id) with
    | row g' sz p cs =>
      rw [he] at h H
      simp only at h
      split at h
      · rename_i hg
        obtain ⟨h, _⟩ := pure_inv h
        cases h
        obtain ⟨_, _, R⟩ := R
        obtain ⟨b, c, k1, rfl, k2⟩ := R (by simp only [Gs, he, gen, hg])
        obtain ⟨b', c', k3, k4⟩ := row_of_ent H
        rw [k1] at k3
        cases k3
        exact ⟨_, c, rfl, k2, .inr ⟨b, 0, rfl, k4⟩⟩
      · exact (fail_inv h).elim
    | _ => rw [he] at h; exact (fail_inv h).elim
  | _ => exact (fail_inv (s := s) h).elim
theorem firstCells_sound {P : Program} {h : Heap} {I : Nat → Prop} {a : Option Addr} {m cap sz k : Nat} {cells c : List PV} (R : cells = [] ∨ ∃ b off, a = some ⟨b, off, none⟩ ∧ RepRow h I b off cells)
    (e : sub? cells 0 k = some c) (hk : k = m * sz) : ∃ us : Array Value, (∀ w : World, w.heap = h → (Builtin.firstCells sz m (.slice a m cap)).run P w = .ok us w) ∧ us.size = k ∧
      ∀ (j : Nat) p, c[j]? = some p → ∃ v, us[j]? = some v ∧ RepP h I p v := by
  have hl := sub?_length e
  have zero : k = 0 → ∃ us : Array Value, (∀ w : World, w.heap = h → (Builtin.firstCells sz m (.slice a m cap)).run P w = .ok us w) ∧ us.size = k ∧
      ∀ (j : Nat) p, c[j]? = some p → ∃ v, us[j]? = some v ∧ RepP h I p v := fun h0 => by
    refine ⟨#[], fun w _ => ?_, by simp [h0], fun j p hp => ?_⟩
    · cases a with
      | none => simp [Builtin.firstCells]
      | some a => simp [Builtin.firstCells, ← hk, h0, loadCells, loadCellsFrom]
    · rw [h0] at hl
      rw [List.length_eq_zero_iff.1 hl] at hp
      simp at hp
  rcases R with rfl | ⟨b, off, rfl, R⟩
  · have := (sub?_some e).1
    exact zero (by simp at this; omega)
  · obtain ⟨us, e1, e2, _, e4⟩ := run_load_row' (P := P) (G := fun _ => 0) (μ := fun _ => none) (R.sub e)
    rw [Nat.add_zero, hl] at e2
    refine ⟨us.toArray, fun w hw => ?_, by simp [e1, hl], fun j p hp => ?_⟩
    · simp only [Builtin.firstCells, ← hk, e2 w hw]
    · have : j < us.length := by
        rw [e1]
        exact (List.getElem?_eq_some_iff.1 hp).1
      exact ⟨us[j], by simp [this], e4 j p _ hp (by simp [this])⟩
/-- what is appended -/
theorem source_sound {P : Program} {F : Nat → Prop} {w : World} {μ : Mu} {s : St} (S : SRel w.heap F μ s) {tx : TypeId} {ty te : TyA} (ht : tyA P tx = some ty) {y : AV} {vy : Value} {m : Nat} {new : List PV} {l : List Loc}
    (h : (match ty.d, y with
    | .str, .pv (.str l) => (do
      need (decide (te.sz = 1))
      RM.pure (l.length, bytesOf l) : RM (Nat × List PV))
    | .slice _, y => do
      let (m, cells) ← rowOf y
      let c ← lift (sub? cells 0 (m * te.sz))
      RM.pure (m, c)
    | _, _ => RM.fail) s = some ((m, new), l)) (R : RV F w μ s y vy) :
    ∃ d, P.underlying tx = some d ∧ (d = .string ∨ ∃ e, d = .slice e) ∧ (Builtin.lenOf vy).run P w = .ok m w ∧ new.length = m * te.sz ∧
      ∃ us : Array Value, (∀ w', w'.heap = w.heap → (Builtin.firstCells te.sz m vy).run P w' = .ok us w') ∧ us.size = m * te.sz ∧ ∀ (j : Nat) p, new[j]? = some p → ∃ v, us[j]? = some v ∧ RepP w.heap (Imm w.heap F μ s) p v := by
  obtain ⟨i, d, ti, td, t1, t2, t3, t4, t5⟩ := tyA_inv ht
  rw [t4] at h
  cases hd : tdOf d with
  | str =>
    rw [hd] at h
    have hd := td_str hd
    subst hd
    cases y with
    | pv p =>
      cases p with
      | str ls =>
        obtain ⟨_, _, _, h1, h, _⟩ := bind_inv h
        have h1 := of_decide_eq_true (need_inv h1).1
        obtain ⟨h, _⟩ := pure_inv h
        cases h
        have R : vy = .string ⟨ls.toArray⟩ := R
        subst R
        have hsz : (⟨ls.toArray⟩ : ByteArray).size = ls.length := by simp [ByteArray.size]
        refine ⟨_, td, .inl rfl, ?_, by simp [bytesOf, h1], (ls.map fun b => Value.int .u8 b.toNat).toArray, fun w' _ => ?_, by simp [h1], fun j p hp => ?_⟩
        · simp [Builtin.lenOf, hsz]
        · simp only [Builtin.firstCells, Sem.run_pure, Result.ok.injEq, and_true]
          apply Array.ext'
          simp [ByteArray.extract, ByteArray.copySlice]
        · simp only [bytesOf, List.getElem?_map, Option.map_eq_some_iff] at hp
          obtain ⟨b, hb, rfl⟩ := hp
          exact ⟨.int .u8 b.toNat, by simp [hb], rfl⟩
      | _ => exact (fail_inv h).elim
    | _ => exact (fail_inv h).elim
  | slice e =>
    rw [hd] at h
    have hd := td_slice hd
    subst hd
    obtain ⟨⟨m', cells⟩, _, _, h1, h, _⟩ := bind_inv h
    obtain ⟨c, _, _, h2, h, _⟩ := bind_inv h
    have h2 := (lift_inv h2).1
    obtain ⟨h, _⟩ := pure_inv h
    cases h
    obtain ⟨a, cap, rfl, k1, k2⟩ := rowOf_sound S h1 R
    refine ⟨_, td, .inr ⟨_, rfl⟩, by simp [Builtin.lenOf], sub?_length h2, ?_⟩
    exact firstCells_sound (P := P) (cap := cap) k2 h2 rfl
  | _ => rw [hd] at h; exact (fail_inv h).elim
end Go.Am
/-
Operations, fifth part: append itself.
-/
namespace Go.Am
open Go
section
variable {P : Program} {w : World} {t tx el ty : TypeId} {d : TypeDesc} {i : TypeInfo} {vy : Value} {m : Nat} {us : Array Value}
  (u1 : P.underlying t = some (.slice el)) (ti : P.info? el = some i) (td : P.underlying tx = some d) (hd : d = .string ∨ ∃ e, d = .slice e)
  (hlen : (Builtin.lenOf vy).run P w = .ok m w) (hsrc : ∀ w', w'.heap = w.heap → (Builtin.firstCells i.size m vy).run P w' = .ok us w')
include u1 ti td hd hlen hsrc
theorem run_append_in (a : Addr) (n c : Nat) (hn : n + m ≤ c) {w' : World} (hst : (storeCells (a.add (n * i.size)) us.toList).run P w = .ok () w') :
    (Builtin.append_ #[t, tx] ty #[.slice (some a) n c, vy]).run P w = .ok (.slice (some a) (n + m) c) w' := by
  rcases hd with rfl | ⟨e, rfl⟩
  all_goals
    unfold Builtin.append_
    simp only [List.getElem?_toArray, List.getElem?_cons_zero, List.getElem?_cons_succ]
    simp only [Sem.run_bind, run_underlying w u1, run_underlying w td, Result.andThen_ok, run_sizeOf w ti, Sem.run_pure, Bool.false_eq_true, if_false, hlen, Bool.not_false, if_true]
    rw [if_pos hn]
    simp only [Sem.run_bind, hsrc w rfl, Result.andThen_ok, hst, Sem.run_pure]
theorem run_append_nil (hm : m = 0) :
    (Builtin.append_ #[t, tx] ty #[.slice none 0 0, vy]).run P w = .ok (.slice none 0 0) w := by
  subst hm
  rcases hd with rfl | ⟨e, rfl⟩
  all_goals
    unfold Builtin.append_
    simp only [List.getElem?_toArray, List.getElem?_cons_zero, List.getElem?_cons_succ]
    simp only [Sem.run_bind, run_underlying w u1, run_underlying w td, Result.andThen_ok, run_sizeOf w ti, Sem.run_pure, Bool.false_eq_true, if_false, hlen, Bool.not_false, if_true]
    rw [if_pos (Nat.le_refl _)]
    simp only [Sem.run_bind, hsrc w rfl, Result.andThen_ok, Sem.run_pure]
theorem run_append_new (base : Option Addr) (n c : Nat) (hn : c < n + m) (hb : 0 < i.bytes) (hby : (n + m) * i.bytes ≤ 2 ^ 46) {zv : Value} (hz : i.zero = some zv) {old : Array Value}
    (hold : ∀ w', w'.heap = w.heap → (Builtin.firstCells i.size n (.slice base n c)).run P w' = .ok old w') :
    ∃ cap, n + m ≤ cap ∧ (Builtin.append_ #[t, tx] ty #[.slice base n c, vy]).run P w =
      .ok (.slice (some ⟨w.heap.size, 0, none⟩) (n + m) cap) { w with drawn := w.drawn + 1, heap := w.heap.push (.cells (old ++ us ++ Builtin.zeroCells zv.cells (cap - (n + m))) el) } := by
  have hle := Go.Room.nextslicecap_le' hn
  have hmul : Builtin.nextslicecap (n + m) c * i.bytes ≤ 2 * (n + m) * i.bytes := Nat.mul_le_mul_right _ hle
  have hlim : ¬ (Builtin.nextslicecap (n + m) c * i.bytes > 2 ^ 48) := by
    rw [Nat.mul_assoc] at hmul
    omega
  refine ⟨(Question.appendCap (n + m) c el).cut (w.tape w.drawn (.appendCap (n + m) c el)), by simp only [Question.cut]; omega, ?_⟩
  have hc0 : ¬ (((n + m : Nat) : Int) > IntKind.i64.max ∧ (False ∨ i.bytes = 0)) := by
    rintro ⟨_, h | h⟩
    · exact h
    · omega
  have hw : ({ w with drawn := w.drawn + 1 } : World).heap = w.heap := rfl
  rcases hd with rfl | ⟨e, rfl⟩
  all_goals
    unfold Builtin.append_
    simp only [List.getElem?_toArray, List.getElem?_cons_zero, List.getElem?_cons_succ]
    simp only [Sem.run_bind, run_underlying w u1, run_underlying w td, Result.andThen_ok, run_sizeOf w ti, Sem.run_pure, Bool.false_eq_true, if_false, hlen, Bool.not_false, if_true]
    rw [if_neg (Nat.not_le.2 hn)]
    simp only [Sem.run_bind, run_typeInfo w ti, Result.andThen_ok]
    rw [if_neg hc0]
    simp only [Sem.run_bind, run_typeInfo w ti, Result.andThen_ok]
    rw [if_neg hlim]
    simp only [Sem.run_bind, run_choose, Question.forced, Bool.false_eq_true, if_false, Result.andThen_ok]
    generalize (Question.appendCap (n + m) c el).cut (w.tape w.drawn (.appendCap (n + m) c el)) = cap
    simp only [run_typeInfo _ ti, Result.andThen_ok, run_askRoom, hold _ hw, hsrc _ hw, run_zeroValue _ ti hz, newRow, Sem.run_bind, run_newObj, Sem.run_pure]
end
theorem zeroCells_size (z : Array Value) (n : Nat) : (Builtin.zeroCells z n).size = n * z.size := by simp [Builtin.zeroCells]
theorem appendA_sound {P : Program} {F : Nat → Prop} {w : World} {μ : Mu} {s : St} (S : SRel w.heap F μ s) {r o : Nat} {t tx : TypeId} (tyr : TypeId) {x y : AV} {vx vy : Value} {e : Eff} {l : List Loc}
    (h : appendA P r o t tx x y s = some (e, l)) (Rx : RV F w μ s x vx) (Ry : RV F w μ s y vy) :
    ∃ v μ' w', (Builtin.append_ #[t, tx] tyr #[vx, vy]).run P w = .ok v w' ∧ Post F w μ s e v μ' w' := by
  obtain ⟨⟨el, te⟩, _, _, h1, h, _⟩ := bind_inv h
  obtain ⟨u1, u2⟩ := sliceElem_inv h1
  obtain ⟨i, d0, ti, _, t1, t2, _, _, t5⟩ := tyA_inv u2
  obtain ⟨ty, _, _, h2, h, _⟩ := bind_inv h
  obtain ⟨⟨m, new⟩, _, _, h3, h, _⟩ := bind_inv h
  obtain ⟨d, td, hd, hlen, hnew, us, s1, s2, s3⟩ := source_sound (P := P) S (lift_inv h2).1 h3 Ry
  obtain ⟨z, _, _, h4, h, _⟩ := bind_inv h
  have h4 := (lift_inv h4).1
  rw [t5] at h4
  obtain ⟨zv, hz, hz2⟩ := Option.bind_eq_some_iff.1 h4
  have hzl0 := (cellsOf_rep (h := #[]) (I := fun _ => True) (G := fun _ => 0) (μ := fun _ => none) hz2).length
  obtain ⟨_, _, _, h5, h, _⟩ := bind_inv h
  have h5 := (need_inv h5).1
  simp only [Bool.and_eq_true, decide_eq_true_eq] at h5
  obtain ⟨q1, q2, q3⟩ := h5
  have hzl : zv.cells.size = te.sz := by rw [← q3, hzl0, Array.length_toList]
  have s1' := s1
  rw [t1] at s1'
  cases x with
  | nilsl =>
    cases Rx
    obtain ⟨_, _, _, h6, h, _⟩ := bind_inv h
    have h6 := of_decide_eq_true (need_inv h6).1
    split at h
    · rename_i hm
      obtain ⟨rfl, _⟩ := ret_inv h
      exact ⟨_, μ, w, run_append_nil u1 ti td hd hlen s1' hm, post_ret S rfl rfl⟩
    · rename_i hm
      have hold : ∀ w', w'.heap = w.heap → (Builtin.firstCells i.size 0 (.slice none 0 0)).run P w' = .ok #[] w' := fun _ _ => rfl
      obtain ⟨cap, c1, c2⟩ := run_append_new (ty := tyr) u1 ti td hd hlen s1' none 0 0 (by omega) (by omega) (by rw [Nat.zero_add, ← t2]; exact h6) hz hold
      rw [Nat.zero_add] at c1 c2
      obtain ⟨μ', hP⟩ := newRow_sound (w' := { w with drawn := w.drawn + 1, heap := w.heap.push (.cells (#[] ++ us ++ Builtin.zeroCells zv.cells (cap - m)) el) }) (c := cap) (el := el) S (PubW.nil s) h rfl ⟨rfl, rfl, rfl⟩ (by
          simp only [Array.size_append, zeroCells_size, s2]
          rw [hzl, show (#[] : Array Value).size = 0 from rfl, Nat.zero_add, ← Nat.add_mul]
          congr 1
          omega) (by rw [hnew]; exact Nat.mul_le_mul_right _ c1) c1 (fun j p hp => by
          obtain ⟨v, v1, v2⟩ := s3 j p hp
          refine ⟨v, ?_, v2⟩
          have hj : j < us.size := by
            rw [s2, ← hnew]
            exact (List.getElem?_eq_some_iff.1 hp).1
          simp only [Array.empty_append]
          rw [Array.getElem?_append_left hj]
          exact v1)
      exact ⟨_, μ', _, c2, hP⟩
  | osl id g n =>
    obtain ⟨ent, _, _, h6, h, _⟩ := bind_inv h
    obtain ⟨rfl, _⟩ := rd_inv h6
    have H := S.ent id
    cases he : s (.i id) with
    | row g' sz pub cells =>
      rw [he] at h H
      obtain ⟨_, _, _, h7, hh, _⟩ := bind_inv h
      clear h
      have h7 := (need_inv h7).1
      simp only [Bool.and_eq_true, decide_eq_true_eq, Bool.not_eq_true'] at h7
      obtain ⟨hg, hpub, hsz, hby⟩ := h7
      subst hpub
      obtain ⟨old, _, _, h8, h, _⟩ := bind_inv hh
      have h8 := (lift_inv h8).1
      obtain ⟨rfl, _⟩ := pure_inv h
      obtain ⟨_, _, Rx⟩ := Rx
      obtain ⟨b, c, k1, rfl, k2⟩ := Rx (by simp only [Gs, he, gen, hg])
      obtain ⟨b', c', arr, el', k3, k4, k5, k6, k7, k8⟩ := H
      rw [k1] at k3
      cases k3
      rw [hsz] at k5 k6
      have holdlen := sub?_length h8
      have hcs := sub?_some h8
      have holdget : ∀ (j : Nat) p, old[j]? = some p → ∃ v, arr[j]? = some v ∧ RepP w.heap (Imm w.heap F μ s) p v := fun j p hp => by
        have := (sub?_get h8 j p hp).2
        rw [Nat.zero_add] at this
        exact k7 j p this
      have hm : isMut (s (.i id)) = true := by rw [he]; rfl
      have hgen : gen (s (.i id)) < gen (.row (g + 1) sz false (old ++ new)) := by rw [he, ← hg]; exact Nat.lt_succ_self _
      by_cases hin : n + m ≤ c
      · -- there is room
        have hsp : n * te.sz + us.toList.length ≤ arr.size := by
          rw [Array.length_toList, s2, k5, ← Nat.add_mul]
          exact Nat.mul_le_mul_right _ hin
        have husone : ∀ v ∈ us.toList, v.oneCell' = true := fun v hv => by
          obtain ⟨j, hj⟩ := List.mem_iff_getElem?.1 hv
          have hj1 : j < new.length := by
            have := (List.getElem?_eq_some_iff.1 hj).1
            rw [Array.length_toList, s2] at this
            omega
          obtain ⟨u, u3, u4⟩ := s3 j new[j] (by simp [hj1])
          rw [Array.getElem?_toList, u3] at hj
          cases hj
          exact (RepP.oneCell u4).1
        have hst := run_storeCells_at P b (n * te.sz) el' us.toList 0 arr w k4 (by simpa using hsp) husone
        simp only [Nat.add_zero] at hst
        have hst' : (storeCells ((⟨b, 0, none⟩ : Addr).add (n * i.size)) us.toList).run P w = .ok () (w.setRow b (arr.toList.take (n * te.sz) ++ us.toList ++ arr.toList.drop (n * te.sz + us.toList.length)).toArray) := by
          rw [addr_add, Nat.zero_add, ← t1]
          exact hst
        have hs : (w.setRow b (arr.toList.take (n * te.sz) ++ us.toList ++ arr.toList.drop (n * te.sz + us.toList.length)).toArray).heap.size = w.heap.size := setRow_size _ _ _
        have hk : ∀ k, k ≠ b → (w.setRow b (arr.toList.take (n * te.sz) ++ us.toList ++ arr.toList.drop (n * te.sz + us.toList.length)).toArray).heap[k]? = w.heap[k]? := fun k hk => setRow_other _ _ _ _ hk
        have T := tr_write (ent := .row (g + 1) sz false (old ++ new)) k1 hm hs hk (Nat.le_of_lt hgen)
        have hput : n * te.sz + us.toList.length ≤ arr.toList.length := by rw [Array.length_toList (xs := arr)]; exact hsp
        refine ⟨_, μ, _, run_append_in u1 ti td hd hlen s1' _ n c hin hst', ?_, ?_, ⟨T, ⟨rfl, rfl, rfl⟩⟩, fun t => by simp only [upds, upd_i_t]⟩
        · refine srel_write S k1 hm hs hk (Nat.le_of_lt hgen) ⟨b, c, _, el', rfl, setRow_heap _ _ _ _ _ _ k4, ?_, ?_, fun j p hp => ?_, k8⟩
          · simp only [List.size_toArray]
            rw [put_length hput, Array.length_toList, hsz]
            exact k5
          · rw [List.length_append, holdlen, hnew, ← Nat.add_mul, hsz]
            exact Nat.mul_le_mul_right _ hin
          · simp only [List.getElem?_toArray]
            rw [put_get hput]
            by_cases hj : j < n * te.sz
            · rw [List.getElem?_append_left (by omega)] at hp
              obtain ⟨v, v1, v2⟩ := holdget j p hp
              simp only [hj, if_true]
              exact ⟨v, by simpa using v1, RepP.mono (T.mono F) p v v2⟩
            · rw [List.getElem?_append_right (by omega), holdlen] at hp
              obtain ⟨v, v1, v2⟩ := s3 _ p hp
              have hj2 : j < n * te.sz + us.toList.length := by
                have := (List.getElem?_eq_some_iff.1 hp).1
                rw [Array.length_toList, s2]
                omega
              simp only [hj, hj2, if_true, if_false]
              exact ⟨v, by rw [Array.getElem?_toList]; exact v1, RepP.mono (T.mono F) p v v2⟩
        · refine ⟨?_, ⟨_, _, _, rfl⟩, fun _ => ⟨b, c, k1, rfl, hin⟩⟩
          simp only [upds, Gs, upd_self, gen]
          exact Nat.le_refl _
      · -- a new row
        have Rold : RepRow w.heap (Imm w.heap F μ s) b 0 cells := .of_get fun j p hj => by
          obtain ⟨v, hv, hp⟩ := k7 j p hj
          exact ⟨v, by simp only [cellAt, k4, Nat.zero_add]; exact hv, hp⟩
        obtain ⟨ov, o1, o2, o3⟩ := firstCells_sound (P := P) (cap := c) (m := n) (sz := te.sz) (a := some ⟨b, 0, none⟩) (.inr ⟨b, 0, rfl, Rold⟩) h8 rfl
        rw [t1] at o1
        obtain ⟨cap, c1, c2⟩ := run_append_new (ty := tyr) u1 ti td hd hlen s1' (some ⟨b, 0, none⟩) n c (by omega) (by omega) (by rw [← t2]; exact hby) hz o1
        have T := tr_new (h := w.heap) (μ := μ) s (o := .cells (ov ++ us ++ Builtin.zeroCells zv.cells (cap - (n + m))) el) (c := cap) hgen
        refine ⟨_, setMu μ id (w.heap.size, cap), _, c2, ?_, ?_, ⟨T, ⟨rfl, rfl, rfl⟩⟩, fun t => by simp only [upds, upd_i_t]⟩
        · refine srel_new S hgen ⟨_, _, _, el, rfl, Array.getElem?_push_size, ?_, ?_, fun j p hp => ?_, fun hf => Nat.lt_irrefl _ (S.low _ hf)⟩
          · simp only [Array.size_append, zeroCells_size, s2, o2]
            rw [hzl, ← Nat.add_mul, ← Nat.add_mul, hsz]
            congr 1
            omega
          · rw [List.length_append, holdlen, hnew, ← Nat.add_mul, hsz]
            exact Nat.mul_le_mul_right _ c1
          · have hlt : j < ov.size + us.size := by
              have := (List.getElem?_eq_some_iff.1 hp).1
              rw [List.length_append, holdlen, hnew] at this
              rw [o2, s2]
              exact this
            rw [Array.getElem?_append_left (by rw [Array.size_append]; exact hlt)]
            by_cases hj : j < n * te.sz
            · rw [List.getElem?_append_left (by omega)] at hp
              obtain ⟨v, v1, v2⟩ := o3 j p hp
              rw [Array.getElem?_append_left (by rw [o2]; exact hj)]
              exact ⟨v, v1, RepP.mono (T.mono F) p v v2⟩
            · rw [List.getElem?_append_right (by omega), holdlen] at hp
              obtain ⟨v, v1, v2⟩ := s3 _ p hp
              rw [Array.getElem?_append_right (by rw [o2]; omega), o2]
              exact ⟨v, v1, RepP.mono (T.mono F) p v v2⟩
        · refine ⟨?_, ⟨_, _, _, rfl⟩, fun _ => ⟨_, cap, setMu_self _ _ _, rfl, c1⟩⟩
          simp only [upds, Gs, upd_self, gen]
          exact Nat.le_refl _
    | _ => rw [he] at h; exact (fail_inv h).elim
  | _ => exact (fail_inv h).elim
end Go.Am
/-
Operations, sixth part: arithmetic, comparisons, conversions, slicing, fields, elements, lengths.
-/
namespace Go.Am
open Go
theorem run_binInt {P : Program} {w : World} {op : BinOp} {k : IntKind} {t : TypeId} {a b : Int} {p : PV} (h : binInt op k a b = some p) (h1 : op ≠ .shl) (h2 : op ≠ .shr) :
    ∃ v, (binOp op t (.int k a) (.int k b)).run P w = .ok v w ∧ ∀ I, RepP w.heap I p v := by
  cases op <;> first | exact (h1 rfl).elim | exact (h2 rfl).elim | skip
  case quo =>
    simp only [binInt] at h
    split at h
    · cases h
    · rename_i hb
      cases h
      refine ⟨_, by simp [binOp, Op.intDiv, hb], fun _ => rfl⟩
  case rem =>
    simp only [binInt] at h
    split at h
    · cases h
    · rename_i hb
      cases h
      refine ⟨_, by simp [binOp, Op.intDiv, hb], fun _ => rfl⟩
  case eql =>
    cases h
    exact ⟨.bool (a == b), by simp [binOp, Op.intCmp], fun _ => rfl⟩
  case neq =>
    cases h
    exact ⟨.bool (a != b), by simp [binOp, Op.intCmp], fun _ => by by_cases hab : a = b <;> simp [RepP, hab]⟩
  all_goals
    cases h
    exact ⟨_, by simp [binOp, Op.intArith, Op.intBits, Op.intCmp], fun _ => rfl⟩
theorem run_shift {P : Program} {w : World} {op : BinOp} {k k' : IntKind} {t : TypeId} {a b : Int} {p : PV} (h : shiftA op k a b = some p) (h1 : op = .shl ∨ op = .shr) :
    ∃ v, (binOp op t (.int k a) (.int k' b)).run P w = .ok v w ∧ ∀ I, RepP w.heap I p v := by
  unfold shiftA at h
  split at h
  · cases h
  · rename_i hb
    rcases h1 with rfl | rfl
    · cases h
      exact ⟨.int k (k.wrap (a * 2 ^ (min b.toNat k.bits))), by simp [binOp, Op.shift, hb], fun _ => rfl⟩
    · cases h
      exact ⟨.int k (a.fdiv (2 ^ (min b.toNat k.bits))), by simp [binOp, Op.shift, hb], fun _ => rfl⟩
theorem run_binStr {P : Program} {w : World} {op : BinOp} {t : TypeId} {a b : List UInt8} {p : PV} (h : binStr op a b = some p) :
    ∃ v, (binOp op t (.string ⟨a.toArray⟩) (.string ⟨b.toArray⟩)).run P w = .ok v w ∧ ∀ I, RepP w.heap I p v := by
  cases op <;> first | (simp [binStr] at h; done) | skip
  case add =>
    simp only [binStr] at h
    split at h
    · rename_i hb
      cases h
      refine ⟨_, ?_, fun _ => rfl⟩
      rw [binOp_string_add, run_string_add_sum _ _ _ (by simp [ByteArray.size]; omega), ByteArray.mk_append_mk]
    · cases h
  all_goals
    cases h
    exact ⟨_, by simp only [binOp, Op.stringOp, ByteArray.toList_mk]; rfl, fun _ => rfl⟩
theorem depth_eq : Op.maxDepth = 9999 + 1 := rfl
theorem run_equal_bool {P : Program} {w : World} {t : TypeId} {a b : Bool} (ht : P.underlying t = some .bool) : (Op.equal t (.bool a) (.bool b)).run P w = .ok (a == b) w := by
  unfold Op.equal
  rw [depth_eq, Op.equalIn]
  simp only [Sem.run_bind, run_underlying w ht, Result.andThen_ok, Sem.run_pure]
theorem run_equal_nil {P : Program} {w : World} {t : TypeId} {m : Array (String × TypeId)} (ht : P.underlying t = some (.interface m)) : (Op.equal t .nilIface .nilIface).run P w = .ok true w := by
  unfold Op.equal
  rw [depth_eq, Op.equalIn]
  simp only [Sem.run_bind, run_underlying w ht, Result.andThen_ok, Sem.run_pure]
theorem run_equal_nil_some {P : Program} {w : World} {t u : TypeId} {v : Value} {m : Array (String × TypeId)} (ht : P.underlying t = some (.interface m)) : (Op.equal t .nilIface (.iface u v)).run P w = .ok false w := by
  unfold Op.equal
  rw [depth_eq, Op.equalIn]
  simp only [Sem.run_bind, run_underlying w ht, Result.andThen_ok, Sem.run_pure]
theorem run_equal_some_nil {P : Program} {w : World} {t u : TypeId} {v : Value} {m : Array (String × TypeId)} (ht : P.underlying t = some (.interface m)) : (Op.equal t (.iface u v) .nilIface).run P w = .ok false w := by
  unfold Op.equal
  rw [depth_eq, Op.equalIn]
  simp only [Sem.run_bind, run_underlying w ht, Result.andThen_ok, Sem.run_pure]
/-- '==' and '!=' of what 'equal' decides -/
theorem run_eqSame {P : Program} {w : World} {op : BinOp} {t : TypeId} {x y : Value} {b : Bool} {p : PV} (h : eqSame op b = some p) (he : (Op.equal t x y).run P w = .ok b w)
    (h1 : binOp .eql t x y = (do pure (.bool (← Op.equal t x y)))) (h2 : binOp .neq t x y = (do pure (.bool (!(← Op.equal t x y))))) :
    ∃ v, (binOp op t x y).run P w = .ok v w ∧ ∀ I, RepP w.heap I p v := by
  cases op <;> first | (simp [eqSame] at h; done) | skip
  · cases h
    exact ⟨.bool b, by rw [h1]; simp only [Sem.run_bind, he, Result.andThen_ok, Sem.run_pure], fun _ => rfl⟩
  · cases h
    exact ⟨.bool (!b), by rw [h2]; simp only [Sem.run_bind, he, Result.andThen_ok, Sem.run_pure], fun _ => rfl⟩
theorem run_eqSame_bool {P : Program} {w : World} {op : BinOp} {t : TypeId} {a b : Bool} {p : PV} (ht : P.underlying t = some .bool) (h : eqSame op (a == b) = some p) :
    ∃ v, (binOp op t (.bool a) (.bool b)).run P w = .ok v w ∧ ∀ I, RepP w.heap I p v := by
  exact run_eqSame h (run_equal_bool ht) rfl rfl
theorem run_eqGuard {P : Program} {w : World} {op : BinOp} {t : TypeId} {x y : Operand} {a b : Value} (h1 : ∀ u, a ≠ .agg u) (h2 : a = .nilIface → b = .nilIface → (isConstO x || isConstO y) = true) :
    (eqGuard op t x y a b).run P w = .ok () w := by
  unfold eqGuard
  cases op
  case eql | neq =>
    cases a
    case agg u => exact (h1 u rfl).elim
    case nilIface =>
      cases b
      case nilIface =>
        have := h2 rfl rfl
        simp only [Bool.or_eq_true] at this
        rcases this with h | h
        · cases x <;> simp [isConstO] at h <;> simp
        · cases y <;> simp [isConstO] at h <;> simp
      all_goals rfl
    all_goals rfl
  all_goals rfl
theorem binNil_sound {P : Program} {F : Nat → Prop} {w : World} {μ : Mu} {s : St} (S : SRel w.heap F μ s) {op : BinOp} {t : TypeId} {ox oy : Operand} {x y : AV} {vx vy : Value} {p : PV}
    (h : binNil P op t ox oy x y = some p) (Rx : RV F w μ s x vx) (Ry : RV F w μ s y vy) :
    ∃ v, ((do eqGuard op t ox oy vx vy; binOp op t vx vy) : Sem Value).run P w = .ok v w ∧ RepP w.heap (Imm w.heap F μ s) p v := by
  have go : ∀ {v}, (∀ u, vx ≠ .agg u) → (vx = .nilIface → vy = .nilIface → (isConstO ox || isConstO oy) = true) → (binOp op t vx vy).run P w = .ok v w →
      ((do eqGuard op t ox oy vx vy; binOp op t vx vy) : Sem Value).run P w = .ok v w := fun h1 h2 h3 => by
    simp only [Sem.run_bind, run_eqGuard h1 h2, Result.andThen_ok, h3]
  unfold binNil at h
  split at h
  · cases Rx
    cases Ry
    split at h
    · rename_i hc
      split at h
      · rename_i ty hty
        obtain ⟨i, d, ti, td, t1, t2, t3, t4, t5⟩ := tyA_inv hty
        split at h
        · rename_i hd
          rw [t4] at hd
          obtain ⟨m, rfl⟩ := td_iface hd
          obtain ⟨v, v1, v2⟩ := run_eqSame h (run_equal_nil (w := w) td) rfl rfl
          exact ⟨v, go (fun u e => by cases e) (fun _ _ => hc) v1, v2 _⟩
        · cases h
      · cases h
    · cases h
  · rename_i hnn
    unfold binA at h
    split at h
    · cases Rx
      cases Ry
      rename_i k a k' b
      have main : (if k = k' then binInt op k a b else none) = some p → op ≠ .shl → op ≠ .shr → ∃ v, ((do eqGuard op t ox oy (.int k a) (.int k' b); binOp op t (.int k a) (.int k' b)) : Sem Value).run P w = .ok v w ∧ RepP w.heap (Imm w.heap F μ s) p v := fun hh e1 e2 => by
        split at hh
        · rename_i hk
          subst hk
          obtain ⟨v, v1, v2⟩ := run_binInt (P := P) (w := w) (t := t) hh e1 e2
          exact ⟨v, go (fun u e => by cases e) (fun e => by cases e) v1, v2 _⟩
        · cases hh
      cases op
      case shl =>
        obtain ⟨v, v1, v2⟩ := run_shift (P := P) (w := w) (k' := k') (t := t) h (.inl rfl)
        exact ⟨v, go (fun u e => by cases e) (fun e => by cases e) v1, v2 _⟩
      case shr =>
        obtain ⟨v, v1, v2⟩ := run_shift (P := P) (w := w) (k' := k') (t := t) h (.inr rfl)
        exact ⟨v, go (fun u e => by cases e) (fun e => by cases e) v1, v2 _⟩
      all_goals exact main h (fun e => by cases e) (fun e => by cases e)
    · cases Rx
      cases Ry
      obtain ⟨v, v1, v2⟩ := run_binStr (P := P) (w := w) (t := t) h
      exact ⟨v, go (fun u e => by cases e) (fun e => by cases e) v1, v2 _⟩
    · cases Rx
      cases Ry
      split at h
      · rename_i ty hty
        obtain ⟨i, d, ti, td, t1, t2, t3, t4, t5⟩ := tyA_inv hty
        split at h
        · rename_i hd
          rw [t4] at hd
          rw [td_bool hd] at td
          obtain ⟨v, v1, v2⟩ := run_eqSame_bool (w := w) td h
          exact ⟨v, go (fun u e => by cases e) (fun e => by cases e) v1, v2 _⟩
        · cases h
      · cases h
    · cases Rx
      obtain ⟨tt, xx, rfl⟩ := Ry
      split at h
      · rename_i ty hty
        obtain ⟨i, d, ti, td, t1, t2, t3, t4, t5⟩ := tyA_inv hty
        split at h
        · rename_i hd
          rw [t4] at hd
          obtain ⟨m, rfl⟩ := td_iface hd
          obtain ⟨v, v1, v2⟩ := run_eqSame h (run_equal_nil_some (w := w) (u := tt) (v := xx) td) rfl rfl
          exact ⟨v, go (fun u e => by cases e) (fun _ e => by cases e) v1, v2 _⟩
        · cases h
      · cases h
    · obtain ⟨tt, xx, rfl⟩ := Rx
      cases Ry
      split at h
      · rename_i ty hty
        obtain ⟨i, d, ti, td, t1, t2, t3, t4, t5⟩ := tyA_inv hty
        split at h
        · rename_i hd
          rw [t4] at hd
          obtain ⟨m, rfl⟩ := td_iface hd
          obtain ⟨v, v1, v2⟩ := run_eqSame h (run_equal_some_nil (w := w) (u := tt) (v := xx) td) rfl rfl
          exact ⟨v, go (fun u e => by cases e) (fun e => by cases e) v1, v2 _⟩
        · cases h
      · cases h
    · cases h
theorem unA_sound {P : Program} {F : Nat → Prop} {w : World} {μ : Mu} {s : St} {op : UnOp} {x : AV} {vx : Value} {p : PV}
    (h : unA op x = some p) (Rx : RV F w μ s x vx) : ∃ v, (Op.unary op vx).run P w = .ok v w ∧ RepP w.heap (Imm w.heap F μ s) p v := by
  unfold unA at h
  split at h
  · cases h; cases Rx; exact ⟨_, by simp [Op.unary, Op.intArith], rfl⟩
  · cases h; cases Rx; exact ⟨_, by simp [Op.unary], rfl⟩
  · cases h; cases Rx; exact ⟨_, by simp [Op.unary, Op.intBits], rfl⟩
  · cases h
/-- the heap grows, and nothing else happens -/
theorem tr_grow {h h' : Heap} {F : Nat → Prop} {μ : Mu} {s : St} (S : SRel h F μ s) (hs : h.size ≤ h'.size) (hk : ∀ b, b < h.size → h'[b]? = h[b]?) : Tr h μ s h' μ s :=
  ⟨hs, fun b hb _ => hk b hb, fun b m => .inl m, fun _ => Nat.le_refl _, fun _ _ => rfl⟩
theorem srel_grow {h h' : Heap} {F : Nat → Prop} {μ : Mu} {s : St} (S : SRel h F μ s) (hs : h.size ≤ h'.size) (hk : ∀ b, b < h.size → h'[b]? = h[b]?) : SRel h' F μ s where
  low b hb := Nat.lt_of_lt_of_le (S.low b hb) hs
  ent id := (S.ent id).mono (tr_grow S hs hk) fun b c e m => hk b (S.lt m e)
  inj := S.inj
  tab := S.tabTr (tr_grow S hs hk)
theorem post_grow {F : Nat → Prop} {w w' : World} {μ : Mu} {s : St} (S : SRel w.heap F μ s) (hs : w.heap.size ≤ w'.heap.size) (hk : ∀ b, b < w.heap.size → w'.heap[b]? = w.heap[b]?) (hio : Io w w') {a : AV} {v : Value}
    (r : RV F w' μ s a v) : Post F w μ s { v := a, wr := [] } v μ w' where
  rel := srel_grow S hs hk
  val := r
  tr := ⟨tr_grow S hs hk, hio⟩
  tmp _ := rfl
theorem imm_new {h h' : Heap} {F : Nat → Prop} {μ : Mu} {s : St} (S : SRel h F μ s) (hs : h.size < h'.size) : Imm h' F μ s h.size :=
  ⟨hs, fun hf => Nat.lt_irrefl _ (S.low _ hf), fun ⟨id, c, e, m⟩ => Nat.lt_irrefl _ (S.lt m e)⟩
theorem unbytes_map : ∀ {ps : List PV} {l : List UInt8}, unbytes ps = some l → ∃ ns : List Int, ps = ns.map (PV.int .u8) ∧ l = ns.map (fun n => UInt8.ofNat n.toNat)
  | [], l, e => by cases e; exact ⟨[], rfl, rfl⟩
  | p :: ps, l, e => by
    unfold unbytes at e
    split at e
    · cases e
      rename_i h
      cases h
    · rename_i n r h
      cases h
      split at e
      · rename_i l' hl
        cases e
        obtain ⟨ns, rfl, rfl⟩ := unbytes_map hl
        exact ⟨n :: ns, rfl, rfl⟩
      · cases e
    · cases e
theorem foldl_push (ns : List Int) : ∀ (l : List UInt8), ns.foldl (fun r n => r.push (UInt8.ofNat n.toNat)) (⟨l.toArray⟩ : ByteArray) = ⟨(l ++ ns.map (fun n => UInt8.ofNat n.toNat)).toArray⟩ := by
  induction ns with
  | nil => intro l; simp
  | cons n ns ih =>
    intro l
    have : (⟨l.toArray⟩ : ByteArray).push (UInt8.ofNat n.toNat) = ⟨(l ++ [UInt8.ofNat n.toNat]).toArray⟩ := by
      unfold ByteArray.push; simp
    rw [List.foldl_cons, this, ih]
    simp
theorem conv_bytes {P : Program} {F : Nat → Prop} {w : World} {μ : Mu} {s : St} (S : SRel w.heap F μ s) {src dst e' : TypeId} {ls : List UInt8} (td1 : P.underlying src = some .string) (td2 : P.underlying dst = some (.slice e')) (td3 : P.underlying e' = some (.int .u8)) :
    ∃ v μ' w', (convert src dst (.string ⟨ls.toArray⟩)).run P w = .ok v w' ∧ Post F w μ s { v := .pv (.sl ls.length (bytesOf ls)), wr := [] } v μ' w' := by
  have hsz : (⟨ls.toArray⟩ : ByteArray).size = ls.length := by simp [ByteArray.size]
  generalize hcap : (Question.appendCap ls.length 0 e').cut (w.tape w.drawn (.appendCap ls.length 0 e')) = cap
  have hc : ls.length ≤ cap := by rw [← hcap]; simp only [Question.cut]; omega
  generalize harr : ((ls.toArray.map fun b : UInt8 => Value.int .u8 b.toNat) ++ Array.replicate (cap - ls.length) (Value.int .u8 0)) = arr
  let w1 : World := { w with drawn := w.drawn + 1, heap := w.heap.push (.cells arr e') }
  have hsh : w1.shape? w.heap.size = some (e', arr.size) := by simp [w1, World.shape?]
  refine ⟨.slice (some ⟨w.heap.size, 0, none⟩) ls.length cap, μ, w1.freeze { block := w.heap.size, off := arr.size } 1, ?_, ?_⟩
  · simp only [convert, Sem.run_bind, run_underlying w td1, run_underlying w td2, run_underlying w td3, Result.andThen_ok, Conv.stringToBytes, hsz, run_choose, Question.forced, Bool.false_eq_true, if_false, hcap,
      newRow, run_newObj, Sem.run_pure, harr, markStringish, run_shape]
    have hsh' : World.shape? { heap := w.heap.push (Obj.cells arr e'), tape := w.tape, drawn := w.drawn + 1, os := w.os, output := w.output } w.heap.size = some (e', arr.size) := hsh
    rw [hsh']
    simp only [run_freeze, Result.andThen_ok]
    rfl
  · have hheap : (w1.freeze { block := w.heap.size, off := arr.size } 1).heap = w.heap.push (.cells arr e' (arr.size, arr.size + 1)) := by
      simp only [World.freeze, w1]
      rw [if_neg (by omega)]
      apply Array.ext
      · simp
      · intro j h1 h2
        simp only [Array.getElem_modify]
        by_cases hj : w.heap.size = j
        · subst hj
          simp
        · simp only [hj, if_false]
          have : j < w.heap.size := by simp at h2; omega
          simp [Array.getElem_push, this]
    have hk : ∀ b, b < w.heap.size → (w1.freeze { block := w.heap.size, off := arr.size } 1).heap[b]? = w.heap[b]? := fun b hb => by
      rw [hheap, Array.getElem?_push]; simp [Nat.ne_of_lt hb]
    refine post_grow S (by rw [hheap]; simp) hk (by unfold World.freeze; split <;> exact ⟨rfl, rfl, rfl⟩) ⟨_, cap, rfl, hc, .inr ⟨_, 0, rfl, imm_new S (by rw [hheap]; simp), .of_get fun j p hp => ?_⟩⟩
    simp only [bytesOf, List.getElem?_map, Option.map_eq_some_iff] at hp
    obtain ⟨b, hb, rfl⟩ := hp
    refine ⟨.int .u8 b.toNat, ?_, rfl⟩
    have hj := (List.getElem?_eq_some_iff.1 hb).1
    simp only [cellAt, hheap, Nat.zero_add, Array.getElem?_push_size]
    rw [← harr]
    rw [Array.getElem?_append_left (by simp; exact hj)]
    simp [hb]
theorem isU8_eq {d : TypeDesc} (h : isU8 (tdOf d) = true) : d = .int .u8 := by
  cases d <;> simp [tdOf, isU8] at h
  rename_i k
  cases k <;> simp at h
  rfl
theorem isStr_eq {d : TypeDesc} (h : isStr (tdOf d) = true) : d = .string := by
  cases d <;> simp [tdOf, isStr] at h
  rfl
theorem rowStrA_sound {P : Program} {F : Nat → Prop} {w : World} {μ : Mu} {s : St} (S : SRel w.heap F μ s) {src dst : TypeId} {x : AV} {vx : Value} {ts : TyA} {d1 : TypeDesc} {e : Eff} {l : List Loc} (td1 : P.underlying src = some d1) (t41 : ts.d = tdOf d1) (td2 : P.underlying dst = some .string)
    (h : rowStrA P ts x s = some (e, l)) (Rx : RV F w μ s x vx) : ∃ v μ' w', (convert src dst vx).run P w = .ok v w' ∧ Post F w μ s e v μ' w' := by
  obtain ⟨⟨n, cells⟩, _, _, h3, h, _⟩ := bind_inv h
  obtain ⟨a, cap, rfl, k1, k2⟩ := rowOf_sound S h3 Rx
  cases hts : ts.d with
  | slice e' =>
    rw [hts] at h
    rw [t41] at hts
    rw [td_slice hts] at td1
    obtain ⟨te, _, _, h4, h, _⟩ := bind_inv h
    obtain ⟨i3, d3, _, td3, _, _, _, t43, _⟩ := tyA_inv (lift_inv h4).1
    obtain ⟨_, _, _, h7, h, _⟩ := bind_inv h
    have h7 := (need_inv h7).1
    rw [t43] at h7
    rw [isU8_eq h7] at td3
    obtain ⟨c, _, _, h5, h, _⟩ := bind_inv h
    have h5 := (lift_inv h5).1
    obtain ⟨ls, _, _, h6, h, _⟩ := bind_inv h
    have h6 := (lift_inv h6).1
    obtain ⟨rfl, _⟩ := ret_inv h
    obtain ⟨ns, rfl, rfl⟩ := unbytes_map h6
    have hl := sub?_length h5
    refine ⟨.string ⟨(ns.map (fun n : Int => UInt8.ofNat n.toNat)).toArray⟩, μ, w, ?_, post_ret S rfl rfl⟩
    rw [run_convert_bytes_string w src dst e' a n cap td1 td3 td2]
    have empty : n = 0 → ns = [] := fun h0 => by
      have hl : (ns.map (PV.int .u8)).length = n := hl
      rw [h0, List.length_map] at hl
      exact List.length_eq_zero_iff.1 hl
    rcases k2 with rfl | ⟨b, off, rfl, R⟩
    · have hn0 : n = 0 := by have := (sub?_some h5).1; simp at this; exact this
      cases a with
      | none => rw [empty hn0]; rfl
      | some a =>
        rw [empty hn0, hn0]
        rw [run_bytesToString w a 0 cap [] rfl]
        rfl
    · have h5 : sub? cells 0 n = some (ns.map (PV.int .u8)) := h5
      have hl : (ns.map (PV.int .u8)).length = n := hl
      obtain ⟨us, e1, e2, _, e4⟩ := run_load_row (P := P) w (G := fun _ => 0) (μ := fun _ => none) (R.sub h5)
      rw [Nat.add_zero, hl] at e2
      have hus : us = ns.map (Value.int .u8) := by
        apply List.ext_getElem?
        intro j
        by_cases hj : j < us.length
        · have hj2 : j < ns.length := by simpa [e1] using hj
          have := e4 j (.int .u8 ns[j]) us[j] (by simp [hj2]) (by simp [hj])
          simp only [List.getElem?_map, List.getElem?_eq_getElem hj, List.getElem?_eq_getElem hj2, Option.map_some]
          congr 1
        · have hj2 : ¬ j < ns.length := by simpa [e1] using hj
          rw [List.getElem?_eq_none (Nat.le_of_not_lt hj), List.getElem?_eq_none (by simpa using Nat.le_of_not_lt hj2)]
      rw [hus] at e2
      rw [run_bytesToString w _ n cap ns e2]
      have := foldl_push ns []
      simp only [List.nil_append] at this
      rw [← this]
      rfl
  | _ => rw [hts] at h; exact (fail_inv h).elim
theorem convA_sound {P : Program} {F : Nat → Prop} {w : World} {μ : Mu} {s : St} (S : SRel w.heap F μ s) {src dst : TypeId} {x : AV} {vx : Value} {e : Eff} {l : List Loc}
    (h : convA P src dst x s = some (e, l)) (Rx : RV F w μ s x vx) : ∃ v μ' w', (convert src dst vx).run P w = .ok v w' ∧ Post F w μ s e v μ' w' := by
  obtain ⟨ts, _, _, h1, h, _⟩ := bind_inv h
  obtain ⟨i1, d1, _, td1, _, _, _, t41, _⟩ := tyA_inv (lift_inv h1).1
  obtain ⟨td, _, _, h2, h, _⟩ := bind_inv h
  obtain ⟨i2, d2, _, td2, _, _, _, t42, _⟩ := tyA_inv (lift_inv h2).1
  cases hd : td.d with
  | int k =>
    rw [hd] at h
    rw [t42] at hd
    rw [td_int hd] at td2
    cases x with
    | pv p =>
      cases p with
      | int k' n =>
        obtain ⟨rfl, _⟩ := ret_inv (s := s) h
        cases Rx
        exact ⟨.int k (k.wrap n), μ, w, by simp [convert, run_underlying w td1, run_underlying w td2, Conv.intToInt], post_ret S rfl rfl⟩
      | _ => exact (fail_inv (s := s) h).elim
    | _ => exact (fail_inv (s := s) h).elim
  | slice e' =>
    rw [hd] at h
    rw [t42] at hd
    rw [td_slice hd] at td2
    cases x with
    | pv p =>
      cases p with
      | str ls =>
        obtain ⟨te, _, _, h3, h, _⟩ := bind_inv h
        obtain ⟨i3, d3, _, td3, _, _, _, t43, _⟩ := tyA_inv (lift_inv h3).1
        obtain ⟨_, _, _, h4, h, _⟩ := bind_inv h
        have h4 := (need_inv h4).1
        rw [t41, t43, Bool.and_eq_true] at h4
        rw [isStr_eq h4.1] at td1
        rw [isU8_eq h4.2] at td3
        obtain ⟨rfl, _⟩ := ret_inv h
        cases Rx
        exact conv_bytes S td1 td2 td3
      | _ => exact (fail_inv (s := s) h).elim
    | _ => exact (fail_inv (s := s) h).elim
  | str =>
    rw [hd] at h
    rw [t42] at hd
    rw [td_str hd] at td2
    cases x with
    | pv p =>
      cases p with
      | str ls =>
        obtain ⟨_, _, _, h4, h, _⟩ := bind_inv h
        have h4 := (need_inv h4).1
        rw [t41] at h4
        rw [isStr_eq h4] at td1
        obtain ⟨rfl, _⟩ := ret_inv h
        cases Rx
        exact ⟨.string ⟨ls.toArray⟩, μ, w, by simp [convert, run_underlying w td1, run_underlying w td2], post_ret S rfl rfl⟩
      | _ => exact rowStrA_sound S td1 t41 td2 h Rx
    | _ => exact rowStrA_sound S td1 t41 td2 h Rx
  | _ => rw [hd] at h; exact (fail_inv h).elim
end Go.Am
/-
Operations, seventh part: slicing, fields, elements, lengths, the smaller and the greater.
-/
namespace Go.Am
open Go
/-- a bound -/
def RepB (h : Heap) (I : Nat → Prop) (G : Gn) (μ : Mu) : Option AV → Option Value → Prop
  | none, none => True
  | some a, some v => RepV h I G μ a v
  | _, _ => False
theorem evOpt_sound {F : Nat → Prop} {w : World} {μ : Mu} {s : St} {a : Act} (A : ARel F w μ s a) {o : Option Operand} {v : Option AV} {l : List Loc} (h : evOpt o s = some (v, l)) :
    RepB w.heap (Imm w.heap F μ s) (Gs s) μ v (o.map a.eval) := by
  cases o with
  | none => obtain ⟨rfl, _⟩ := pure_inv (s := s) h; trivial
  | some o =>
    obtain ⟨u, _, _, h1, h, _⟩ := bind_inv h
    obtain ⟨rfl, _⟩ := pure_inv h
    exact evO_sound A h1
theorem boundA_sound {h : Heap} {I : Nat → Prop} {G : Gn} {μ : Mu} {s : St} {d n : Nat} {b : Option AV} {v : Option Value} {l : List Loc} (e : boundA d b s = some (n, l)) (R : RepB h I G μ b v) :
    (v = none ∧ n = d) ∨ ∃ k, v = some (.int k n) := by
  unfold boundA at e
  split at e
  · obtain ⟨rfl, _⟩ := pure_inv (s := s) e
    cases v with
    | none => exact .inl ⟨rfl, rfl⟩
    | some v => exact R.elim
  · rename_i k m
    split at e
    · rename_i hm
      obtain ⟨rfl, _⟩ := pure_inv (s := s) e
      cases v with
      | none => exact R.elim
      | some v =>
        have R : v = .int k m := R
        exact .inr ⟨k, by rw [R, Int.toNat_of_nonneg hm]⟩
    · exact (fail_inv (s := s) e).elim
  · exact (fail_inv (s := s) e).elim
theorem run_sliceBound {P : Program} {w : World} {k : IntKind} {n y : Nat} {c : BoundsCode} (h : n ≤ y) : (Instr.sliceBound (.int k n) y c).run P w = .ok n w := by
  have : (0 : Int) ≤ n ∧ (n : Int) ≤ y := ⟨Int.natCast_nonneg n, by omega⟩
  simp only [Instr.sliceBound, asIntOf, Sem.run_bind, Sem.run_pure, Result.andThen_ok]
  rw [if_pos this]
  simp
theorem run_sliceBounds {P : Program} {w : World} {b : Bool} {len cap lo hi : Nat} {vl vh : Option Value} (hl : (vl = none ∧ lo = 0) ∨ ∃ k, vl = some (.int k lo)) (hh : (vh = none ∧ hi = len) ∨ ∃ k, vh = some (.int k hi))
    (h1 : lo ≤ hi) (h2 : hi ≤ cap) : (Instr.sliceBounds b len cap vl vh none).run P w = .ok (lo, hi, cap) w := by
  unfold Instr.sliceBounds
  rcases hl with ⟨rfl, rfl⟩ | ⟨k, rfl⟩
  · rcases hh with ⟨rfl, rfl⟩ | ⟨k', rfl⟩
    · rfl
    · simp only [Sem.run_bind, Sem.run_pure, Result.andThen_ok, run_sliceBound h2]
  · rcases hh with ⟨rfl, rfl⟩ | ⟨k', rfl⟩
    · simp only [Sem.run_bind, Sem.run_pure, Result.andThen_ok, run_sliceBound h1, Option.isSome_none]
    · simp only [Sem.run_bind, Sem.run_pure, Result.andThen_ok, run_sliceBound h1, run_sliceBound h2, Option.isSome_none]
theorem run_slice {P : Program} {w : World} {t el : TypeId} {i : TypeInfo} {a : Option Addr} {len cap lo hi : Nat} {vl vh : Option Value} (ht : P.underlying t = some (.slice el)) (hi' : P.info? el = some i) (hl : (vl = none ∧ lo = 0) ∨ ∃ k, vl = some (.int k lo)) (hh : (vh = none ∧ hi = len) ∨ ∃ k, vh = some (.int k hi))
    (h1 : lo ≤ hi) (h2 : hi ≤ cap) : (Instr.sliceAt t (.slice a len cap) vl vh none).run P w = .ok (.slice (if cap = lo then a else a.map (·.add (lo * i.size))) (hi - lo) (cap - lo)) w := by
  simp only [Instr.sliceAt, Instr.slice, Sem.run_bind, run_underlying w ht, Result.andThen_ok, run_sliceBounds hl hh h1 h2, run_sizeOf w hi', Sem.run_pure]
theorem unPvs_some : ∀ {l : List AV} {ps : List PV}, unPvs l = some ps → l = ps.map .pv
  | [], ps, h => by cases h; rfl
  | a :: r, ps, h => by
    unfold unPvs at h
    split at h
    · rename_i e
      cases e
    · rename_i p r' e
      cases e
      split at h
      · rename_i q hq
        cases h
        rw [List.map_cons, ← unPvs_some hq]
      · cases h
    · cases h
theorem sliceArrA_sound {P : Program} {F : Nat → Prop} {w : World} {μ : Mu} {s : St} (S : SRel w.heap F μ s) {t : TypeId} {ty : TyA} (ht : tyA P t = some ty) {id : Id} {g o : Nat} {lo : Option AV} {vl : Option Value} {vx : Value} {e : Eff} {l : List Loc}
    (h : sliceArrA P ty id g o lo s = some (e, l)) (Rx : RV F w μ s (.ptr id g o) vx) {h' : Heap} {I' : Nat → Prop} {G' : Gn} {μ' : Mu} (Rl : RepB h' I' G' μ' lo vl) :
    ∃ v, (Instr.sliceAt t vx vl none none).run P w = .ok v w ∧ Post F w μ s e v μ w := by
  obtain ⟨i, d, ti, td, t1, t2, t3, t4, t5⟩ := tyA_inv ht
  unfold sliceArrA at h
  cases hd : ty.d with
  | array n el =>
    rw [hd] at h
    rw [t4] at hd
    rw [td_array hd] at td
    obtain ⟨_, _, _, h4, hz, _⟩ := bind_inv h
    have h4 := of_decide_eq_true (need_inv h4).1
    subst h4
    clear h
    have h := hz
    clear hz
    obtain ⟨te, _, _, h5, h, _⟩ := bind_inv h
    obtain ⟨i', d', ti', td', t1', t2', t3', t4', t5'⟩ := tyA_inv (lift_inv h5).1
    obtain ⟨a, _, _, h8, h, _⟩ := bind_inv h
    have hB := boundA_sound h8 Rl
    obtain ⟨_, _, _, h9, h, _⟩ := bind_inv h
    have h9 := of_decide_eq_true (need_inv h9).1
    obtain ⟨ent, _, _, h6, h, _⟩ := bind_inv h
    obtain ⟨rfl, _⟩ := rd_inv h6
    cases he : s (.i id) with
    | box g' cells =>
      rw [he] at h
      simp only at h
      split at h
      · rename_i hg
        obtain ⟨ps, _, _, h7, h, _⟩ := bind_inv h
        have h7 := unPvs_some (lift_inv h7).1
        obtain ⟨c, _, _, h10, h, _⟩ := bind_inv h
        have h10 := (lift_inv h10).1
        obtain ⟨rfl, _⟩ := pure_inv h
        subst h7
        obtain ⟨q1, _, q3⟩ := Rx
        obtain ⟨bk, c', k1, rfl⟩ := q3 (by simp only [Gs, he, gen, hg])
        obtain ⟨S1, bk', c', k3, k4, k5⟩ := srel_pubbox S he
        have T1 := tr_pubbox (h := w.heap) (μ := μ) (ps := ps) he
        rw [k1] at k3
        cases k3
        have e1 : P.arrayLen t = n := by simp [Program.arrayLen, td]
        have e2 : P.elem t = el := by simp [Program.elem, td]
        have hrun : (Instr.sliceAt t (.pointer (some ⟨bk, 0, none⟩)) vl none none).run P w = .ok (.slice (some (if n = a then ⟨bk, 0, none⟩ else (⟨bk, 0, none⟩ : Addr).add (a * te.sz))) (n - a) (n - a)) w := by
          rcases hB with ⟨rfl, rfl⟩ | ⟨kk, rfl⟩
          · have := run_sliceAt_array_all (P := P) w t ⟨bk, 0, none⟩ (by rw [e1, e2]; exact td)
            rw [e1, e2, run_sizeOf w ti', Result.andThen_ok] at this
            rw [this, t1']
            rfl
          · have := run_sliceAt_array_l (P := P) w t ⟨bk, 0, none⟩ (by rw [e1, e2]; exact td) kk (a : Int) (by omega) (by rw [e1]; omega)
            rw [e1, e2, run_sizeOf w ti', Result.andThen_ok, Int.toNat_natCast] at this
            rw [this, t1']
            rfl
        refine ⟨_, hrun, S1, ⟨_, _, rfl, Nat.le_refl _, ?_⟩, ⟨T1, .refl _⟩, fun t => by simp only [upds, upd_i_t]⟩
        by_cases hna : n = a
        · left
          have := sub?_length h10
          have h0 : n - a = 0 := by omega
          rw [h0, Nat.zero_mul] at this
          exact List.length_eq_zero_iff.1 this
        · right
          refine ⟨bk, 0 + a * te.sz, ?_, k4, k5.sub h10⟩
          rw [if_neg hna, addr_add]
      · exact (fail_inv h).elim
    | _ => rw [he] at h; exact (fail_inv h).elim
  | _ => rw [hd] at h; exact (fail_inv h).elim
theorem noHi_inv {b : Option AV} (h : noHi b = true) : b = none := by
  cases b with
  | none => rfl
  | some _ => cases h
theorem sliceA_sound {P : Program} {F : Nat → Prop} {w : World} {μ : Mu} {s : St} (S : SRel w.heap F μ s) {t : TypeId} {x : AV} {vx : Value} {lo hi : Option AV} {vl vh : Option Value} {e : Eff} {l : List Loc}
    (h : sliceA P t x lo hi s = some (e, l)) (Rx : RV F w μ s x vx) (Rl : RepB w.heap (Imm w.heap F μ s) (Gs s) μ lo vl) (Rh : RepB w.heap (Imm w.heap F μ s) (Gs s) μ hi vh) :
    ∃ v, (Instr.sliceAt t vx vl vh none).run P w = .ok v w ∧ Post F w μ s e v μ w := by
  obtain ⟨ty, _, _, h1, h, _⟩ := bind_inv h
  obtain ⟨i, d, ti, td, t1, t2, t3, t4, t5⟩ := tyA_inv (lift_inv h1).1
  cases x with
  | pv p =>
    cases p with
    | str ls =>
      obtain ⟨a, _, _, h2, h, _⟩ := bind_inv h
      obtain ⟨b, _, _, h3, h, _⟩ := bind_inv h
      obtain ⟨_, _, _, h4, h, _⟩ := bind_inv h
      have h4 := (need_inv h4).1
      simp only [Bool.and_eq_true, decide_eq_true_eq] at h4
      cases Rx
      cases hd : ty.d with
      | str =>
        rw [hd] at h
        obtain ⟨rfl, _⟩ := ret_inv h
        rw [t4] at hd
        rw [td_str hd] at td
        have hsz : (⟨ls.toArray⟩ : ByteArray).size = ls.length := by simp [ByteArray.size]
        refine ⟨.string ((⟨ls.toArray⟩ : ByteArray).extract a b), ?_, post_ret S rfl ?_⟩
        · simp only [Instr.sliceAt, Instr.slice, Sem.run_bind, run_underlying w td, Result.andThen_ok, hsz, Option.isSome_none, Bool.false_eq_true, if_false,
            run_sliceBounds (b := false) (cap := ls.length) (boundA_sound h2 Rl) (boundA_sound h3 Rh) h4.1 h4.2, Sem.run_pure]
        · show Value.string _ = Value.string _
          congr 1
          have : ((⟨ls.toArray⟩ : ByteArray).extract a b).data = (ls.toArray).extract a b := by simp [ByteArray.extract, ByteArray.copySlice]
          apply ByteArray.ext
          rw [this]
          simp
      | _ => rw [hd] at h; exact (fail_inv h).elim
    | sl n cells =>
      obtain ⟨a, _, _, h2, h, _⟩ := bind_inv h
      obtain ⟨b, _, _, h3, h, _⟩ := bind_inv h
      obtain ⟨_, _, _, h4, h, _⟩ := bind_inv h
      have h4 := (need_inv h4).1
      simp only [Bool.and_eq_true, decide_eq_true_eq] at h4
      cases hd : ty.d with
      | slice el =>
        rw [hd] at h
        rw [t4] at hd
        rw [td_slice hd] at td
        obtain ⟨te, _, _, h5, h, _⟩ := bind_inv h
        obtain ⟨i', d', ti', td', t1', t2', t3', t4', t5'⟩ := tyA_inv (lift_inv h5).1
        obtain ⟨c, _, _, h6, h, _⟩ := bind_inv h
        have h6 := (lift_inv h6).1
        obtain ⟨rfl, _⟩ := ret_inv h
        obtain ⟨ad, cap, rfl, k1, k2⟩ := Rx
        refine ⟨_, run_slice td ti' (boundA_sound h2 Rl) (boundA_sound h3 Rh) h4.1 (by omega), post_ret S rfl ⟨_, _, rfl, by omega, ?_⟩⟩
        by_cases hc : cap = a
        · left
          have := sub?_length h6
          have h0 : b - a = 0 := by omega
          rw [h0, Nat.zero_mul] at this
          exact List.length_eq_zero_iff.1 this
        · rcases k2 with rfl | ⟨bk, off, rfl, hI, R⟩
          · left
            have := sub?_some h6
            rw [this.2]
            simp
          · right
            refine ⟨bk, off + a * te.sz, ?_, hI, R.sub h6⟩
            rw [if_neg hc, Option.map_some, addr_add, t1']
      | _ => rw [hd] at h; exact (fail_inv h).elim
    | _ => exact (fail_inv h).elim
  | nilsl =>
    cases Rx
    obtain ⟨a, _, _, h2, h, _⟩ := bind_inv h
    obtain ⟨b, _, _, h3, h, _⟩ := bind_inv h
    obtain ⟨_, _, _, h4, h, _⟩ := bind_inv h
    have h4 := (need_inv h4).1
    simp only [Bool.and_eq_true, decide_eq_true_eq] at h4
    cases hd : ty.d with
    | slice el =>
      rw [hd] at h
      rw [t4] at hd
      rw [td_slice hd] at td
      obtain ⟨te, _, _, h5, h, _⟩ := bind_inv h
      obtain ⟨i', d', ti', _⟩ := tyA_inv (lift_inv h5).1
      obtain ⟨rfl, _⟩ := ret_inv h
      have ha : a = 0 := by omega
      have hb : b = 0 := by omega
      subst ha
      subst hb
      exact ⟨_, run_slice td ti' (boundA_sound h2 Rl) (boundA_sound h3 Rh) (Nat.le_refl _) (Nat.le_refl _), post_ret S rfl rfl⟩
    | _ => rw [hd] at h; exact (fail_inv h).elim
  | osl id g n =>
    obtain ⟨a, _, _, h2, h, _⟩ := bind_inv h
    obtain ⟨b, _, _, h3, h, _⟩ := bind_inv h
    obtain ⟨_, _, _, h4, h, _⟩ := bind_inv h
    have h4 := (need_inv h4).1
    simp only [Bool.and_eq_true, decide_eq_true_eq] at h4
    cases hd : ty.d with
    | slice el =>
      rw [hd] at h
      rw [t4] at hd
      rw [td_slice hd] at td
      obtain ⟨te, _, _, h5, h, _⟩ := bind_inv h
      obtain ⟨i', d', ti', td', t1', t2', t3', t4', t5'⟩ := tyA_inv (lift_inv h5).1
      obtain ⟨ent, _, _, h6, h, _⟩ := bind_inv h
      obtain ⟨rfl, _⟩ := rd_inv h6
      have H := S.ent id
      cases he : s (.i id) with
      | row g' sz p cells =>
        rw [he] at h H
        simp only at h
        split at h
        · rename_i hg
          obtain ⟨q1, _, q3⟩ := Rx
          obtain ⟨bk, c, k1, rfl, k2⟩ := q3 (by simp only [Gs, he, gen, hg])
          split at h
          · rename_i ha
            obtain ⟨rfl, _⟩ := ret_inv h
            subst ha
            refine ⟨_, run_slice td ti' (boundA_sound h2 Rl) (boundA_sound h3 Rh) h4.1 (by omega), post_ret S rfl ⟨q1, ⟨_, _, _, rfl⟩, fun _ => ⟨bk, c, k1, ?_, by omega⟩⟩⟩
            have : (if c = 0 then some (⟨bk, 0, none⟩ : Addr) else (some (⟨bk, 0, none⟩ : Addr)).map (·.add (0 * i'.size))) = some ⟨bk, 0, none⟩ := by
              split
              · rfl
              · rw [Option.map_some, addr_add, Nat.zero_mul]
            rw [this]
            rfl
          · rename_i ha
            obtain ⟨cs, _, _, h7, h, _⟩ := bind_inv h
            have h7 := (lift_inv h7).1
            obtain ⟨rfl, _⟩ := pure_inv h
            obtain ⟨S1, bk', c', k3, k4, k5⟩ := srel_pub S he
            have T1 := tr_pub (h := w.heap) (μ := μ) he
            rw [k1] at k3
            cases k3
            refine ⟨_, run_slice td ti' (boundA_sound h2 Rl) (boundA_sound h3 Rh) h4.1 (by omega), S1, ⟨_, _, rfl, by omega, ?_⟩, ⟨T1, .refl _⟩, fun t => by simp only [upds, upd_i_t]⟩
            by_cases hc : c = a
            · left
              have := sub?_length h7
              have h0 : b - a = 0 := by omega
              rw [h0, Nat.zero_mul] at this
              exact List.length_eq_zero_iff.1 this
            · right
              refine ⟨bk, 0 + a * te.sz, ?_, k4, k5.sub h7⟩
              rw [if_neg hc, Option.map_some, addr_add, t1']
        · exact (fail_inv h).elim
      | _ => rw [he] at h; exact (fail_inv h).elim
    | _ => rw [hd] at h; exact (fail_inv h).elim
  | ptr id g o =>
    obtain ⟨_, _, _, h4, hz, _⟩ := bind_inv h
    obtain rfl := noHi_inv (need_inv h4).1
    clear h
    cases vh with
    | some _ => exact Rh.elim
    | none => exact sliceArrA_sound S (lift_inv h1).1 hz Rx Rl
  | _ => exact (fail_inv h).elim
theorem fieldOffA_inv {P : Program} {t : TypeId} {f : Nat} {s : St} {tf : TyA} {off : Nat} {l : List Loc} (h : fieldOffA P t f s = some ((tf, off), l)) :
    ∃ fs fd, P.underlying t = some (.struct fs) ∧ fs[f]? = some fd ∧ fd.offset = off ∧ tyA P fd.type = some tf := by
  obtain ⟨ty, _, _, h1, h, _⟩ := bind_inv h
  obtain ⟨i, d, ti, td, t1, t2, t3, t4, t5⟩ := tyA_inv (lift_inv h1).1
  cases hd : ty.d with
  | struct fs =>
    rw [hd] at h
    rw [t4] at hd
    obtain ⟨fa, rfl, rfl⟩ := td_struct hd
    obtain ⟨⟨ft, off'⟩, _, _, h2, h, _⟩ := bind_inv h
    have h2 := (lift_inv h2).1
    obtain ⟨tf', _, _, h3, h, _⟩ := bind_inv h
    have h3 := (lift_inv h3).1
    obtain ⟨h, _⟩ := pure_inv h
    cases h
    rw [List.getElem?_map, Option.map_eq_some_iff] at h2
    obtain ⟨fd, k1, k2⟩ := h2
    cases k2
    exact ⟨fa, fd, td, by simpa using k1, rfl, h3⟩
  | _ => rw [hd] at h; exact (fail_inv h).elim
theorem fieldAddrA_sound {P : Program} {F : Nat → Prop} {w : World} {μ : Mu} {s : St} (S : SRel w.heap F μ s) {t : TypeId} {x : AV} {vx : Value} {f : Nat} {e : Eff} {l : List Loc}
    (h : fieldAddrA P t x f s = some (e, l)) (Rx : RV F w μ s x vx) : ∃ v, (Instr.fieldAt t vx f).run P w = .ok v w ∧ Post F w μ s e v μ w := by
  obtain ⟨⟨tf, off⟩, _, _, h1, h, _⟩ := bind_inv h
  obtain ⟨fs, fd, td, hf, rfl, htf⟩ := fieldOffA_inv h1
  obtain ⟨i, d, ti, _, t1, _⟩ := tyA_inv htf
  obtain ⟨_, _, _, h2, h, _⟩ := bind_inv h
  have h2 := of_decide_eq_true (need_inv h2).1
  have hnz : ¬ i.size = 0 := by omega
  have run0 : ∀ a : Addr, (Instr.fieldAt t (.pointer (some a)) f).run P w = .ok (.pointer (some (a.add fd.offset))) w := fun a => by
    simp only [Instr.fieldAt, Instr.sureAddr, Sem.run_bind, run_underlying w td, Result.andThen_ok, hf, Sem.run_pure, fieldPlace, run_sizeOf w ti]
    rw [if_neg hnz]
    rfl
  have run : ∀ b o, (Instr.fieldAt t (.pointer (some ⟨b, o, none⟩)) f).run P w = .ok (.pointer (some ⟨b, o + fd.offset, none⟩)) w := fun b o => by
    rw [run0, addr_add]
  cases x with
  | ptr id g o =>
    obtain ⟨rfl, _⟩ := ret_inv h
    obtain ⟨q1, ⟨a, rfl⟩, q3⟩ := Rx
    by_cases hg : g = Gs s id
    · obtain ⟨b, c, k1, k2⟩ := q3 hg
      cases k2
      exact ⟨_, run _ _, post_ret S rfl ⟨q1, ⟨_, rfl⟩, fun _ => ⟨b, c, k1, rfl⟩⟩⟩
    · -- a name that has gone
      exact ⟨_, run0 _, post_ret S rfl ⟨q1, ⟨_, rfl⟩, fun e => (hg e).elim⟩⟩
  | rptr cs o =>
    obtain ⟨rfl, _⟩ := ret_inv h
    obtain ⟨b, o', rfl, hI, R⟩ := Rx
    exact ⟨_, run _ _, post_ret S rfl ⟨b, o', by rw [Nat.add_assoc], hI, R⟩⟩
  | _ => exact (fail_inv h).elim
theorem part_sound {P : Program} {w : World} {I : Nat → Prop} {G : Gn} {μ : Mu} {t : TypeId} {ty : TyA} {off : Nat} {cs : List AV} {v : AV} {arr : Array Value} (ht : tyA P t = some ty)
    (R : RepL w.heap I G μ cs arr.toList) (h : loadC ty cs off = some v) : ∃ u, (part t arr off).run P w = .ok u w ∧ RepV w.heap I G μ v u := by
  obtain ⟨i, d, h1, h2, h3, h4, h5, h6, h7⟩ := tyA_inv ht
  unfold loadC at h
  unfold part
  simp only [Sem.run_bind, run_isAgg w h2, Result.andThen_ok, ← h5]
  split at h
  · rename_i ha
    rw [if_pos ha]
    obtain ⟨r, hr, rfl⟩ := Option.map_eq_some_iff.1 h
    refine ⟨.agg (arr.extract off (off + i.size)), by simp only [Sem.run_bind, run_sizeOf w h1, Result.andThen_ok, Sem.run_pure], ⟨_, rfl, ?_⟩⟩
    have := R.sub hr
    rw [h3] at this
    have e : (arr.extract off (off + i.size)).toList = (arr.toList.drop off).take i.size := by simp
    rw [e]
    exact this
  · rename_i ha
    rw [if_neg ha]
    obtain ⟨u, e1, e2⟩ := R.get off v h
    have : arr[off]? = some u := by simpa using e1
    exact ⟨u, by simp only [this, Sem.run_pure], e2⟩
theorem fieldA_sound {P : Program} {F : Nat → Prop} {w : World} {μ : Mu} {s : St} (S : SRel w.heap F μ s) {t : TypeId} {x : AV} {vx : Value} {f : Nat} {e : Eff} {l : List Loc}
    (h : fieldA P t x f s = some (e, l)) (Rx : RV F w μ s x vx) : ∃ v, (Instr.field t vx f).run P w = .ok v w ∧ Post F w μ s e v μ w := by
  obtain ⟨⟨tf, off⟩, _, _, h1, h, _⟩ := bind_inv h
  obtain ⟨fs, fd, td, hf, rfl, htf⟩ := fieldOffA_inv h1
  cases x with
  | agg cs =>
    cases hl : loadC tf cs fd.offset with
    | none =>
      have h : (match loadC tf cs fd.offset with
        | some v => ret v
        | none => RM.fail) s = some (e, _) := h
      rw [hl] at h
      exact (fail_inv h).elim
    | some v =>
      have h : (match loadC tf cs fd.offset with
        | some v => ret v
        | none => RM.fail) s = some (e, _) := h
      rw [hl] at h
      obtain ⟨rfl, _⟩ := ret_inv h
      obtain ⟨arr, rfl, R⟩ := Rx
      obtain ⟨u, u1, u2⟩ := part_sound (P := P) htf R hl
      exact ⟨u, by simp only [Instr.field, Sem.run_bind, run_underlying w td, Result.andThen_ok, hf, asAgg, Sem.run_pure, u1], post_ret S rfl u2⟩
  | _ => exact (fail_inv h).elim
theorem indexAddrA_sound {P : Program} {F : Nat → Prop} {w : World} {μ : Mu} {s : St} (S : SRel w.heap F μ s) {t : TypeId} {x n : AV} {vx vn : Value} {e : Eff} {l : List Loc}
    (h : indexAddrA P t x n s = some (e, l)) (Rx : RV F w μ s x vx) (Rn : RV F w μ s n vn) : ∃ v, (Instr.indexAt t vx vn).run P w = .ok v w ∧ Post F w μ s e v μ w := by
  obtain ⟨ty, _, _, h1, ha, _⟩ := bind_inv h
  clear h
  obtain ⟨i, d, ti, td, t1, t2, t3, t4, t5⟩ := tyA_inv (lift_inv h1).1
  obtain ⟨j, _, _, h2, hb, _⟩ := bind_inv ha
  clear ha
  obtain ⟨k, rfl, rfl⟩ := intOfA_sound h2 Rn
  have h := hb
  clear hb
  cases hd : ty.d with
  | slice el =>
    rw [hd] at h
    rw [t4] at hd
    rw [td_slice hd] at td
    have run : ∀ {te : TyA} (a : Addr) (m c : Nat), tyA P el = some te → 0 ≤ j → j < m → (Instr.indexAt t (.slice (some a) m c) (.int k j)).run P w = .ok (.pointer (some (a.add (j.toNat * te.sz)))) w := fun {te} a m c hte h0 h1 => by
      obtain ⟨i', _, ti', _, t1', _⟩ := tyA_inv hte
      simp only [Instr.indexAt, asIntOf, Sem.run_bind, Sem.run_pure, Result.andThen_ok, run_underlying w td]
      rw [if_pos ⟨h0, h1⟩]
      simp only [Sem.run_bind, run_sizeOf w ti', Result.andThen_ok, Sem.run_pure, t1']
    cases x with
    | pv p =>
      cases p with
      | sl m cells =>
        obtain ⟨te, _, _, h3, h, _⟩ := bind_inv h
        obtain ⟨_, _, _, h4, h, _⟩ := bind_inv h
        have h4 := (need_inv h4).1
        simp only [Bool.and_eq_true, decide_eq_true_eq, Bool.not_eq_true'] at h4
        obtain ⟨rfl, _⟩ := ret_inv h
        obtain ⟨a, cap, rfl, k1, k2⟩ := Rx
        rcases k2 with rfl | ⟨b, off, rfl, hI, R⟩
        · simp at h4
        · refine ⟨_, run _ _ _ (lift_inv h3).1 h4.1 h4.2.1, post_ret S rfl ⟨b, off, by rw [addr_add], hI, R⟩⟩
      | _ => exact (fail_inv h).elim
    | osl id g m =>
      obtain ⟨te, _, _, h3, h, _⟩ := bind_inv h
      obtain ⟨_, _, _, h4, h, _⟩ := bind_inv h
      have h4 := (need_inv h4).1
      simp only [Bool.and_eq_true, decide_eq_true_eq] at h4
      obtain ⟨ent, _, _, h5, h, _⟩ := bind_inv h
      obtain ⟨rfl, _⟩ := rd_inv h5
      obtain ⟨_, _, _, h6, h, _⟩ := bind_inv h
      have h6 := of_decide_eq_true (need_inv h6).1
      obtain ⟨rfl, _⟩ := ret_inv h
      obtain ⟨q1, _, q3⟩ := Rx
      obtain ⟨b, c, k1, rfl, k2⟩ := q3 h6.symm
      exact ⟨_, run _ _ _ (lift_inv h3).1 h4.1 h4.2, post_ret S rfl ⟨q1, ⟨_, rfl⟩, fun _ => ⟨b, c, k1, by rw [addr_add, Nat.zero_add]⟩⟩⟩
    | _ => exact (fail_inv h).elim
  | array m el =>
    rw [hd] at h
    rw [t4] at hd
    rw [td_array hd] at td
    have run : ∀ {te : TyA} (a : Addr), tyA P el = some te → 0 ≤ j → j < m → (Instr.indexAt t (.pointer (some a)) (.int k j)).run P w = .ok (.pointer (some (a.add (j.toNat * te.sz)))) w := fun {te} a hte h0 h1 => by
      obtain ⟨i', _, ti', _, t1', _⟩ := tyA_inv hte
      simp only [Instr.indexAt, asIntOf, Instr.sureAddr, Sem.run_bind, Sem.run_pure, Result.andThen_ok, run_underlying w td]
      rw [if_pos ⟨h0, h1⟩]
      simp only [Sem.run_bind, run_sizeOf w ti', Result.andThen_ok, Sem.run_pure, t1']
    cases x with
    | ptr id g o =>
      obtain ⟨te, _, _, h3, h, _⟩ := bind_inv h
      obtain ⟨_, _, _, h4, h, _⟩ := bind_inv h
      have h4 := (need_inv h4).1
      simp only [Bool.and_eq_true, decide_eq_true_eq] at h4
      obtain ⟨rfl, _⟩ := ret_inv h
      obtain ⟨q1, ⟨a, rfl⟩, q3⟩ := Rx
      refine ⟨_, run _ (lift_inv h3).1 h4.1 h4.2, post_ret S rfl ⟨q1, ⟨_, rfl⟩, fun hg => ?_⟩⟩
      obtain ⟨b, c, k1, k2⟩ := q3 hg
      cases k2
      exact ⟨b, c, k1, by rw [addr_add]⟩
    | rptr cells o =>
      obtain ⟨te, _, _, h3, h, _⟩ := bind_inv h
      obtain ⟨_, _, _, h4, h, _⟩ := bind_inv h
      have h4 := (need_inv h4).1
      simp only [Bool.and_eq_true, decide_eq_true_eq] at h4
      obtain ⟨rfl, _⟩ := ret_inv h
      obtain ⟨b, o', rfl, hI, R⟩ := Rx
      exact ⟨_, run _ (lift_inv h3).1 h4.1 h4.2, post_ret S rfl ⟨b, o', by rw [addr_add, Nat.add_assoc], hI, R⟩⟩
    | _ => exact (fail_inv h).elim
  | _ => rw [hd] at h; exact (fail_inv h).elim
theorem getElem_bytes (l : List UInt8) (j : Nat) : (⟨l.toArray⟩ : ByteArray)[j]? = l[j]? := by
  by_cases h : j < l.length
  · have h' : j < (⟨l.toArray⟩ : ByteArray).size := by simpa [ByteArray.size] using h
    rw [ByteArray.getElem?_lt' _ _ h', List.getElem?_eq_getElem h]
    rfl
  · have h' : ¬ j < (⟨l.toArray⟩ : ByteArray).size := by simpa [ByteArray.size] using h
    rw [ByteArray.getElem?_ge' _ _ h', List.getElem?_eq_none (Nat.le_of_not_lt h)]
theorem indexA_sound {P : Program} {F : Nat → Prop} {w : World} {μ : Mu} {s : St} (S : SRel w.heap F μ s) {t : TypeId} {x n : AV} {vx vn : Value} {e : Eff} {l : List Loc}
    (h : indexA P t x n s = some (e, l)) (Rx : RV F w μ s x vx) (Rn : RV F w μ s n vn) : ∃ v, (Instr.index t vx vn).run P w = .ok v w ∧ Post F w μ s e v μ w := by
  obtain ⟨ty, _, _, h1, ha, _⟩ := bind_inv h
  clear h
  obtain ⟨i, d, ti, td, t1, t2, t3, t4, t5⟩ := tyA_inv (lift_inv h1).1
  obtain ⟨j, _, _, h2, hb, _⟩ := bind_inv ha
  clear ha
  obtain ⟨k, rfl, rfl⟩ := intOfA_sound h2 Rn
  have h := hb
  clear hb
  cases hd : ty.d with
  | str =>
    rw [hd] at h
    rw [t4] at hd
    rw [td_str hd] at td
    cases x with
    | pv p =>
      cases p with
      | str ls =>
        cases Rx
        cases hb : (if 0 ≤ j then ls[j.toNat]? else none) with
        | none =>
          have h : (match (if 0 ≤ j then ls[j.toNat]? else none) with
            | some b => ret (.pv (.int .u8 b.toNat))
            | none => RM.fail) s = some (e, _) := h
          rw [hb] at h
          exact (fail_inv h).elim
        | some b =>
          have h : (match (if 0 ≤ j then ls[j.toNat]? else none) with
            | some b => ret (.pv (.int .u8 b.toNat))
            | none => RM.fail) s = some (e, _) := h
          rw [hb] at h
          obtain ⟨rfl, _⟩ := ret_inv h
          refine ⟨.int .u8 b.toNat, ?_, post_ret S rfl rfl⟩
          simp only [Instr.index, asIntOf, Sem.run_bind, Sem.run_pure, Result.andThen_ok, run_underlying w td, getElem_bytes, hb]
      | _ => exact (fail_inv h).elim
    | _ => exact (fail_inv h).elim
  | array m el =>
    rw [hd] at h
    rw [t4] at hd
    rw [td_array hd] at td
    cases x with
    | agg cs =>
      obtain ⟨te, _, _, h3, h, _⟩ := bind_inv h
      obtain ⟨i', d', ti', td', t1', _⟩ := tyA_inv (lift_inv h3).1
      obtain ⟨_, _, _, h4, h, _⟩ := bind_inv h
      have h4 := (need_inv h4).1
      simp only [Bool.and_eq_true, decide_eq_true_eq] at h4
      obtain ⟨v, _, _, h5, h, _⟩ := bind_inv h
      obtain ⟨rfl, _⟩ := ret_inv h
      obtain ⟨arr, rfl, R⟩ := Rx
      obtain ⟨u, u1, u2⟩ := part_sound (P := P) (lift_inv h3).1 R (lift_inv h5).1
      refine ⟨u, ?_, post_ret S rfl u2⟩
      simp only [Instr.index, asIntOf, Sem.run_bind, Sem.run_pure, Result.andThen_ok, run_underlying w td]
      rw [if_pos ⟨h4.1, h4.2⟩]
      simp only [Sem.run_bind, run_sizeOf w ti', Result.andThen_ok, ← t1', u1]
    | _ => exact (fail_inv h).elim
  | _ => rw [hd] at h; exact (fail_inv h).elim
theorem lenA_sound {P : Program} {F : Nat → Prop} {w : World} {μ : Mu} {s : St} (S : SRel w.heap F μ s) {t tyr : TypeId} {x : AV} {vx : Value} {e : Eff} {l : List Loc}
    (h : lenA P t x s = some (e, l)) (Rx : RV F w μ s x vx) : ∃ v, (Builtin.len_ #[t] tyr #[vx]).run P w = .ok v w ∧ Post F w μ s e v μ w := by
  obtain ⟨ty, _, _, h1, h, _⟩ := bind_inv h
  obtain ⟨i, d, ti, td, t1, t2, t3, t4, t5⟩ := tyA_inv (lift_inv h1).1
  cases hd : ty.d with
  | str =>
    rw [hd] at h
    rw [t4] at hd
    rw [td_str hd] at td
    cases x with
    | pv p =>
      cases p with
      | str ls =>
        obtain ⟨rfl, _⟩ := ret_inv h
        cases Rx
        exact ⟨_, by rw [run_len_string w _ _ _ td], post_ret S rfl (by simp [RepV, RepP, goInt, ByteArray.size])⟩
      | _ => exact (fail_inv h).elim
    | _ => exact (fail_inv h).elim
  | slice el =>
    rw [hd] at h
    rw [t4] at hd
    rw [td_slice hd] at td
    have run : ∀ a m c, (Builtin.len_ #[t] tyr #[.slice a m c]).run P w = .ok (goInt m) w := fun a m c => by
      unfold Builtin.len_
      simp only [List.getElem?_toArray, List.getElem?_cons_zero, Sem.run_bind, run_underlying w td, Result.andThen_ok, Sem.run_pure]
    cases x with
    | pv p =>
      cases p with
      | sl m cells =>
        obtain ⟨rfl, _⟩ := ret_inv h
        obtain ⟨a, cap, rfl, _⟩ := Rx
        exact ⟨_, run _ _ _, post_ret S rfl rfl⟩
      | _ => exact (fail_inv h).elim
    | nilsl =>
      obtain ⟨rfl, _⟩ := ret_inv h
      cases Rx
      exact ⟨_, run _ _ _, post_ret S rfl rfl⟩
    | osl id g m =>
      obtain ⟨ent, _, _, h5, h, _⟩ := bind_inv h
      obtain ⟨rfl, _⟩ := rd_inv h5
      obtain ⟨_, _, _, h6, h, _⟩ := bind_inv h
      have h6 := of_decide_eq_true (need_inv h6).1
      obtain ⟨rfl, _⟩ := ret_inv h
      obtain ⟨q1, _, q3⟩ := Rx
      obtain ⟨b, c, k1, rfl, k2⟩ := q3 h6.symm
      exact ⟨_, run _ _ _, post_ret S rfl rfl⟩
    | _ => exact (fail_inv h).elim
  | array m el =>
    rw [hd] at h
    rw [t4] at hd
    rw [td_array hd] at td
    obtain ⟨rfl, _⟩ := ret_inv h
    refine ⟨goInt m, ?_, post_ret S rfl rfl⟩
    unfold Builtin.len_
    simp only [List.getElem?_toArray, List.getElem?_cons_zero, Sem.run_bind, run_underlying w td, Result.andThen_ok, Sem.run_pure]
  | _ => rw [hd] at h; exact (fail_inv h).elim
theorem foldA_sound {P : Program} {w : World} {h : Heap} {I : Nat → Prop} {G : Gn} {μ : Mu} {f : AV → AV → Option AV} {g : Value → Value → Sem Value}
    (H : ∀ x y z vx vy, f x y = some z → RepV h I G μ x vx → RepV h I G μ y vy → ∃ v, (g vx vy).run P w = .ok v w ∧ RepV h I G μ z v) :
    ∀ (l : List AV) (vs : List Value) (x z : AV) (vx : Value), foldA f x l = some z → RepV h I G μ x vx → RepL h I G μ l vs → ∃ v, (vs.foldlM g vx).run P w = .ok v w ∧ RepV h I G μ z v
  | [], [], x, z, vx, e, R, _ => by cases e; exact ⟨vx, rfl, R⟩
  | y :: l, v :: vs, x, z, vx, e, R, Q => by
    unfold foldA at e
    split at e
    · rename_i u hu
      obtain ⟨v1, k1, k2⟩ := H _ _ _ _ _ hu R Q.1
      obtain ⟨v2, k3, k4⟩ := foldA_sound H l vs u z v1 e k2 Q.2
      exact ⟨v2, by simp only [List.foldlM_cons, Sem.run_bind, k1, Result.andThen_ok, k3], k4⟩
    · cases e
  | [], _ :: _, _, _, _, _, _, Q => Q.elim
  | _ :: _, [], _, _, _, _, _, Q => Q.elim
theorem min2A_sound {P : Program} {w : World} {h : Heap} {I : Nat → Prop} {G : Gn} {μ : Mu} : ∀ x y z vx vy, min2A x y = some z → RepV h I G μ x vx → RepV h I G μ y vy → ∃ v, (Builtin.min2 vx vy).run P w = .ok v w ∧ RepV h I G μ z v := by
  intro x y z vx vy e Rx Ry
  unfold min2A at e
  split at e
  · cases e
    cases Rx
    cases Ry
    exact ⟨_, rfl, rfl⟩
  · cases e
theorem max2A_sound {P : Program} {w : World} {h : Heap} {I : Nat → Prop} {G : Gn} {μ : Mu} : ∀ x y z vx vy, max2A x y = some z → RepV h I G μ x vx → RepV h I G μ y vy → ∃ v, (Builtin.max2 vx vy).run P w = .ok v w ∧ RepV h I G μ z v := by
  intro x y z vx vy e Rx Ry
  unfold max2A at e
  split at e
  · cases e
    cases Rx
    cases Ry
    exact ⟨_, rfl, rfl⟩
  · cases e
end Go.Am
/-
Calls, first part: lists of names, renamings, entries.
-/
namespace Go.Am
open Go
/-! ### lists of names -/
theorem idx?_some : ∀ {l : List Id} {x : Id} {k : Nat}, idx? l x = some k → l[k]? = some x
  | [], _, _, h => by cases h
  | y :: l, x, k, h => by
    unfold idx? at h
    split at h
    · cases h; simp [*]
    · obtain ⟨j, hj, rfl⟩ := Option.map_eq_some_iff.1 h
      rw [List.getElem?_cons_succ]
      exact idx?_some hj
theorem idx?_none : ∀ {l : List Id} {x : Id}, idx? l x = none → x ∉ l
  | [], _, _ => by simp
  | y :: l, x, h => by
    unfold idx? at h
    split at h
    · cases h
    · rw [Option.map_eq_none_iff] at h
      have := idx?_none h
      simp [*]
theorem nodupB_spec : ∀ {l : List Id}, nodupB l = true → l.Nodup
  | [], _ => List.nodup_nil
  | x :: l, h => by
    simp only [nodupB, Bool.and_eq_true, Bool.not_eq_true'] at h
    refine List.nodup_cons.2 ⟨fun hx => ?_, nodupB_spec h.2⟩
    have := h.1
    rw [List.contains_iff_mem.2 hx] at this
    cases this
theorem get_inj {l : List Id} (h : l.Nodup) {j k : Nat} {x : Id} (hj : l[j]? = some x) (hk : l[k]? = some x) : j = k := by
  obtain ⟨h1, e1⟩ := List.getElem?_eq_some_iff.1 hj
  obtain ⟨h2, e2⟩ := List.getElem?_eq_some_iff.1 hk
  have hp := List.pairwise_iff_getElem.1 h
  rcases Nat.lt_trichotomy j k with hl | hl | hl
  · exact (hp j k h1 h2 hl (e1.trans e2.symm)).elim
  · exact hl
  · exact (hp k j h2 h1 hl (e2.trans e1.symm)).elim
theorem idx?_get {l : List Id} (h : l.Nodup) {k : Nat} {x : Id} (hk : l[k]? = some x) : idx? l x = some k := by
  cases hi : idx? l x with
  | none => exact (idx?_none hi (List.mem_of_getElem? hk)).elim
  | some j => rw [get_inj h (idx?_some hi) hk]
/-! ### renaming -/
/-- a renaming that keeps what names mean -/
structure RenOk (m : Ren) (G : Gn) (μ : Mu) (G' : Gn) (μ' : Mu) : Prop where
  ok : ∀ id id' cur new, m id = some (id', cur, new) → cur = G id ∧ new = G' id' ∧ μ' id' = μ id
mutual
theorem renV_rep {h : Heap} {I : Nat → Prop} {G G' : Gn} {μ μ' : Mu} {m : Ren} (M : RenOk m G μ G' μ') : ∀ (a : AV) (v : Value), RepV h I G μ a v → RepV h I G' μ' (renV m a) v
  | .pv p, v, r => r
  | .nilsl, v, r => r
  | .ptr id g off, v, r => by
    unfold renV
    split
    · rename_i id' cur new hm
      obtain ⟨e1, e2, e3⟩ := M.ok _ _ _ _ hm
      split
      · rename_i hg
        obtain ⟨_, r2, r3⟩ := r
        refine ⟨Nat.le_of_eq e2, r2, fun _ => ?_⟩
        rw [e3]
        exact r3 (hg.trans e1)
      · trivial
    · trivial
  | .osl id g n, v, r => by
    unfold renV
    split
    · rename_i id' cur new hm
      obtain ⟨e1, e2, e3⟩ := M.ok _ _ _ _ hm
      split
      · rename_i hg
        obtain ⟨_, r2, r3⟩ := r
        refine ⟨Nat.le_of_eq e2, r2, fun _ => ?_⟩
        rw [e3]
        exact r3 (hg.trans e1)
      · trivial
    · trivial
  | .rptr c o, v, r => r
  | .fn f x y, v, r => by
    obtain ⟨u, w, rfl, r1, r2⟩ := r
    exact ⟨u, w, rfl, renL_rep M x _ r1, renL_rep M y _ r2⟩
  | .agg l, v, r => by
    obtain ⟨u, rfl, r⟩ := r
    exact ⟨u, rfl, renL_rep M l _ r⟩
  | .tup l, v, r => by
    obtain ⟨u, rfl, r⟩ := r
    exact ⟨u, rfl, renL_rep M l _ r⟩
  | .any, _, _ => trivial
  | .box _ _, _, r => r.elim
  | .row _ _ _ _, _, r => r.elim
theorem renL_rep {h : Heap} {I : Nat → Prop} {G G' : Gn} {μ μ' : Mu} {m : Ren} (M : RenOk m G μ G' μ') : ∀ (l : List AV) (vs : List Value), RepL h I G μ l vs → RepL h I G' μ' (renL m l) vs
  | [], [], _ => trivial
  | a :: as, v :: vs, r => ⟨renV_rep M a v r.1, renL_rep M as vs r.2⟩
  | [], _ :: _, r => r.elim
  | _ :: _, [], r => r.elim
end
theorem renL_map (m : Ren) : ∀ l, renL m l = l.map (renV m)
  | [] => rfl
  | a :: l => by rw [renL, renL_map m l, List.map_cons]
theorem isMut_ren (m : Ren) (g : Nat) (a : AV) : isMut (setGen g (renV m a)) = isMut a := by
  cases a with
  | ptr id g' o =>
    unfold renV
    cases m id with
    | none => rfl
    | some q =>
      by_cases h : g' = q.2.1 <;> simp [h, setGen, isMut]
  | osl id g' o =>
    unfold renV
    cases m id with
    | none => rfl
    | some q =>
      by_cases h : g' = q.2.1 <;> simp [h, setGen, isMut]
  | row g' sz p cs => unfold renV; cases p <;> rfl
  | _ => unfold renV; rfl
theorem gen_ren {m : Ren} {g : Nat} {a : AV} (h : isEnt a = true) : gen (setGen g (renV m a)) = g := by
  cases a with
  | box => unfold renV; rfl
  | row => unfold renV; rfl
  | _ => simp [isEnt] at h
/-- an entry, renamed -/
theorem EntOk.ren {h : Heap} {F F' : Nat → Prop} {I I' : Nat → Prop} {G G' : Gn} {μ μ' : Mu} {m : Ren} (M : RenOk m G μ G' μ') (hI : ∀ b, I b → I' b)
    {a : Option (Nat × Nat)} {e : AV} {g : Nat} (hf : ∀ b c, a = some (b, c) → isMut e = true → ¬F b → ¬F' b) (H : EntOk h F I G μ a e) : EntOk h F' I' G' μ' a (setGen g (renV m e)) := by
  have MI : Mono h I h I' := ⟨hI, fun _ _ => rfl⟩
  have MG : MonoG G' μ' G' μ' := ⟨fun _ => Nat.le_refl _, fun _ _ => rfl⟩
  cases e with
  | box g' cs =>
    obtain ⟨b, c, arr, e, rfl, h1, h2, h3⟩ := H
    exact ⟨b, c, arr, e, rfl, h1, RepL.mono MI MG _ _ (renL_rep M cs _ h2), hf b c rfl rfl h3⟩
  | row g' sz p cs =>
    cases p with
    | false =>
      obtain ⟨b, c, arr, e, rfl, h1, h2, h3, h4, h5⟩ := H
      exact ⟨b, c, arr, e, rfl, h1, h2, h3, fun j p hj => by
        obtain ⟨v, hv, hp⟩ := h4 j p hj
        exact ⟨v, hv, RepP.mono MI p v hp⟩, hf b c rfl rfl h5⟩
    | true =>
      obtain ⟨b, c, rfl, h1, h2⟩ := H
      exact ⟨b, c, rfl, hI b h1, RepRow.mono MI b h1 0 cs h2⟩
  | ptr id g' o => unfold renV; split <;> first | trivial | (split <;> trivial)
  | osl id g' o => unfold renV; split <;> first | trivial | (split <;> trivial)
  | _ => trivial
/-! ### entries -/
theorem lookW_upds : ∀ (w : List (Loc × AV)) (s : St) (x : Loc), (lookW w x).getD (s x) = upds s w x
  | [], _, _ => rfl
  | (y, v) :: r, s, x => by
    show (lookW ((y, v) :: r) x).getD (s x) = upds (upd s y v) r x
    rw [← lookW_upds r (upd s y v) x]
    simp only [lookW]
    cases lookW r x with
    | some u => rfl
    | none =>
      by_cases h : x = y
      · subst h; simp [upd_self]
      · simp [h, upd_ne _ _ h]
theorem rdW_inv {w : List (Loc × AV)} {x : Loc} {s : St} {v : AV} {l : List Loc} (h : rdW w x s = some (v, l)) : v = upds s w x := by
  obtain ⟨u, _, _, h1, h, _⟩ := bind_inv h
  obtain ⟨rfl, _⟩ := rd_inv h1
  obtain ⟨rfl, _⟩ := pure_inv h
  exact lookW_upds w s x
theorem entries_inv {w : List (Loc × AV)} {s : St} : ∀ {ids : List Id} {es : List AV} {l : List Loc}, entries w ids s = some (es, l) → es = ids.map (fun x => upds s w (.i x)) ∧ ∀ x ∈ ids, isEnt (upds s w (.i x)) = true
  | [], es, l, h => by obtain ⟨rfl, _⟩ := pure_inv h; exact ⟨rfl, fun _ hx => by cases hx⟩
  | x :: r, es, l, h => by
    obtain ⟨e, _, _, h1, h, _⟩ := bind_inv h
    have h1 := rdW_inv h1
    obtain ⟨_, _, _, h2, h, _⟩ := bind_inv h
    have h2 := (need_inv h2).1
    obtain ⟨es', _, _, h3, h, _⟩ := bind_inv h
    obtain ⟨rfl, _⟩ := pure_inv h
    obtain ⟨e1, e2⟩ := entries_inv h3
    subst h1
    exact ⟨by rw [e1]; rfl, fun y hy => by
      rcases List.mem_cons.1 hy with rfl | hy
      · exact h2
      · exact e2 y hy⟩
theorem gens_inv {r o : Nat} {s : St} : ∀ {n j : Nat} {gl : List Nat} {l : List Loc}, gens r o n j s = some (gl, l) → ∀ k, k < n → gl[k]? = some (gen (s (.i (.site r o (j + k)))))
  | 0, _, _, _, _, _, hk => by omega
  | n + 1, j, gl, l, h, k, hk => by
    obtain ⟨e, _, _, h1, h, _⟩ := bind_inv h
    obtain ⟨rfl, _⟩ := rd_inv h1
    obtain ⟨gl', _, _, h2, h, _⟩ := bind_inv h
    obtain ⟨rfl, _⟩ := pure_inv h
    cases k with
    | zero => rfl
    | succ k =>
      rw [List.getElem?_cons_succ, gens_inv h2 k (by omega), Nat.add_assoc, Nat.add_comm 1 k]
/-! ### what is written behind a call -/
theorem backW_at {m : Ren} : ∀ {l : List Id} {es bs : List AV} {s : St}, l.Nodup → ∀ (k : Nat) x e b, l[k]? = some x → es[k]? = some e → bs[k]? = some b →
    upds s (backW m l es bs) (.i x) = setGen (gen e + gen b) (renV m b)
  | [], _, _, _, _, k, _, _, _, h, _, _ => by simp at h
  | y :: l, [], _, _, _, k, _, _, _, _, h, _ => by simp at h
  | y :: l, _ :: _, [], _, _, k, _, _, _, _, _, h => by simp at h
  | y :: l, e' :: es, b' :: bs, s, hn, k, x, e, b, h1, h2, h3 => by
    have hn' := List.nodup_cons.1 hn
    have other : ∀ {l : List Id} {es bs : List AV} {s : St} {x : Id}, x ∉ l → upds s (backW m l es bs) (.i x) = s (.i x) := by
      intro l
      induction l with
      | nil => intro es bs s x _; cases es <;> cases bs <;> rfl
      | cons z l ih =>
        intro es bs s x hx
        cases es with
        | nil => rfl
        | cons e es =>
          cases bs with
          | nil => rfl
          | cons b bs =>
            show upds (upd s (.i z) _) (backW m l es bs) (.i x) = _
            rw [ih (fun h => hx (by simp [h])), upd_i_ne _ _ (fun h => hx (by simp [h]))]
    show upds (upd s (.i y) _) (backW m l es bs) (.i x) = _
    cases k with
    | zero =>
      simp only [List.getElem?_cons_zero, Option.some.injEq] at h1 h2 h3
      subst h1; subst h2; subst h3
      rw [other hn'.1, upd_self]
    | succ k =>
      rw [List.getElem?_cons_succ] at h1 h2 h3
      exact backW_at hn'.2 k x e b h1 h2 h3
theorem backW_not {m : Ren} : ∀ {l : List Id} {es bs : List AV} {s : St} {x : Id}, x ∉ l → upds s (backW m l es bs) (.i x) = s (.i x)
  | [], es, bs, s, x, _ => by cases es <;> cases bs <;> rfl
  | z :: l, [], _, _, _, _ => rfl
  | z :: l, _ :: _, [], _, _, _ => rfl
  | z :: l, e :: es, b :: bs, s, x, hx => by
    show upds (upd s (.i z) _) (backW m l es bs) (.i x) = _
    rw [backW_not (fun h => hx (by simp [h])), upd_i_ne _ _ (fun h => hx (by simp [h]))]
theorem backW_t {m : Ren} : ∀ {l : List Id} {es bs : List AV} {s : St} (t : Nat), upds s (backW m l es bs) (.t t) = s (.t t)
  | [], es, bs, s, t => by cases es <;> cases bs <;> rfl
  | z :: l, [], _, _, _ => rfl
  | z :: l, _ :: _, [], _, _ => rfl
  | z :: l, e :: es, b :: bs, s, t => by
    show upds (upd s (.i z) _) (backW m l es bs) (.t t) = _
    rw [backW_t, upd_i_t]
theorem newsW_at {m : Ren} {r o : Nat} {gs : Nat → Nat} : ∀ {news : List AV} {j : Nat} {s : St} (k : Nat) b, news[k]? = some b →
    upds s (newsW m r o gs j news) (.i (.site r o (j + k))) = setGen (gs (j + k) + gen b) (renV m b)
  | [], _, _, _, _, h => by simp at h
  | b' :: news, j, s, k, b, h => by
    show upds (upd s (.i (.site r o j)) _) (newsW m r o gs (j + 1) news) _ = _
    have other : ∀ {news : List AV} {j : Nat} {s : St} {i : Nat}, i < j → upds s (newsW m r o gs j news) (.i (.site r o i)) = s (.i (.site r o i)) := by
      intro news
      induction news with
      | nil => intro j s i _; rfl
      | cons b news ih =>
        intro j s i hi
        show upds (upd s (.i (.site r o j)) _) (newsW m r o gs (j + 1) news) _ = _
        rw [ih (by omega), upd_i_ne _ _ (fun e => by injection e; omega)]
    cases k with
    | zero =>
      simp only [List.getElem?_cons_zero, Option.some.injEq] at h
      subst h
      have := other (news := news) (j := j + 1) (s := upd s (.i (.site r o j)) (setGen (gs j + gen b') (renV m b'))) (i := j) (Nat.lt_add_one j)
      simp only [Nat.add_zero]
      rw [this, upd_self]
    | succ k =>
      rw [List.getElem?_cons_succ] at h
      have := newsW_at (m := m) (r := r) (o := o) (gs := gs) (j := j + 1) (s := upd s (.i (.site r o j)) (setGen (gs j + gen b') (renV m b'))) k b h
      rw [show j + 1 + k = j + (k + 1) by omega] at this
      exact this
theorem newsW_not {m : Ren} {r o : Nat} {gs : Nat → Nat} : ∀ {news : List AV} {j : Nat} {s : St} {x : Id}, (∀ k, k < news.length → x ≠ .site r o (j + k)) → upds s (newsW m r o gs j news) (.i x) = s (.i x)
  | [], _, _, _, _ => rfl
  | b :: news, j, s, x, h => by
    show upds (upd s (.i (.site r o j)) _) (newsW m r o gs (j + 1) news) _ = _
    rw [newsW_not (fun k hk => by rw [show j + 1 + k = j + (k + 1) by omega]; exact h (k + 1) (by simpa using hk)), upd_i_ne _ _ (by have := h 0 (by simp); simpa using this)]
theorem newsW_t {m : Ren} {r o : Nat} {gs : Nat → Nat} : ∀ {news : List AV} {j : Nat} {s : St} (t : Nat), upds s (newsW m r o gs j news) (.t t) = s (.t t)
  | [], _, _, _ => rfl
  | b :: news, j, s, t => by
    show upds (upd s (.i (.site r o j)) _) (newsW m r o gs (j + 1) news) _ = _
    rw [newsW_t, upd_i_t]
theorem noSite_spec {r o : Nat} : ∀ {l : List Id}, noSite r o l = true → ∀ k, Id.site r o k ∉ l
  | [], _, _ => by simp
  | x :: l, h, k => by
    cases x with
    | site a b c =>
      simp only [noSite, Bool.and_eq_true, Bool.not_eq_true'] at h
      intro hm
      rcases List.mem_cons.1 hm with e | hm
      · injection e with e1 e2 e3
        subst e1; subst e2
        simp at h
      · exact noSite_spec h.2 k hm
    | arg j =>
      intro hm
      rcases List.mem_cons.1 hm with e | hm
      · cases e
      · exact noSite_spec (l := l) h k hm
    | ret j =>
      intro hm
      rcases List.mem_cons.1 hm with e | hm
      · cases e
      · exact noSite_spec (l := l) h k hm
end Go.Am
/-
Calls, second part: a call of a function that is known to be right.
-/
namespace Go.Am
open Go
/-- the state behind a function: what came in, and what is new -/
def outSt (bs news : List AV) : St
  | .i (.arg j) => bs.getD j (.tup [])
  | .i (.ret j) => news.getD j (.tup [])
  | _ => .tup []
/-- the function can be called -/
def Callable (P : Program) (f : FuncId) : Prop := ∃ fn c, P.funcs[f]? = some fn ∧ (fn.name == "runtime.NumGoroutine") = false ∧ fn.body = some c
/-- what a call comes to -/
def Returns (P : Program) (f : FuncId) (args bs : List AV) (v : AV) (bs' news : List AV) : Prop :=
  ∀ (F : Nat → Prop) (w : World) (μ : Mu) (cargs : Array Value), SRel w.heap F μ (enterA args bs) → RL F w μ (enterA args bs) args cargs.toList →
    Calls P f cargs w fun e w' => ∃ cv μ', e = .returned cv ∧ SRel w'.heap F μ' (outSt bs' news) ∧ RV F w' μ' (outSt bs' news) v cv ∧ TrW w μ (enterA args bs) w' μ' (outSt bs' news)
def SoundF (P : Program) (f : FuncId) (sm : Sm) : Prop := ∀ args bs v bs' news, sm args bs = some (v, bs', news) → Callable P f ∧ Returns P f args bs v bs' news
/-- whatever is done next holds behind the operation -/
def OpOk (P : Program) (F : Nat → Prop) (w : World) (μ : Mu) (s : St) (e : Eff) (o : Oper) (a : Act) : Prop :=
  ∀ (next : Act → World → Prop) (Q : Exit → Act → World → Prop), (∀ v μ' w', Post F w μ s e v μ' w' → next (a.put o.dst v) w') → o.wp P a w next Q
theorem opOk_value {P : Program} {F : Nat → Prop} {w w' : World} {μ μ' : Mu} {s : St} {e : Eff} {o : Oper} {a : Act} {v : Value} (h : (execOp a.eval o).run P w = .ok (.value v) w') (hp : Post F w μ s e v μ' w') : OpOk P F w μ s e o a := by
  intro next Q H
  unfold Oper.wp
  rw [h]
  exact H _ _ _ hp
theorem opOk_skip {P : Program} {F : Nat → Prop} {w w' : World} {μ μ' : Mu} {s : St} {e : Eff} {o : Oper} {a : Act} (h : (execOp a.eval o).run P w = .ok .skip w') (hp : Post F w μ s e undef μ' w') : OpOk P F w μ s e o a := by
  intro next Q H
  unfold Oper.wp
  rw [h]
  exact H _ _ _ hp
theorem getD_get {α : Type} {l : List α} {j : Nat} {d a : α} (h : l[j]? = some a) : l.getD j d = a := by simp [h]
theorem getD_not {α : Type} {l : List α} {j : Nat} {d : α} (h : l[j]? = none) : l.getD j d = d := by simp [h]
theorem callA_sound {P : Program} {F : Nat → Prop} {w : World} {μ : Mu} {s : St} (S : SRel w.heap F μ s) {f : FuncId} {sm : Sm} (hf : SoundF P f sm) {r o : Nat} {vals : List AV} {cvals : Array Value} {e : Eff} {lg : List Loc}
    (h : callA sm r o vals s = some (e, lg)) (R : RL F w μ s vals cvals.toList) :
    Callable P f ∧ Calls P f cvals w fun en w' => ∃ cv μ', en = .returned cv ∧ Post F w μ s e cv μ' w' := by
  obtain ⟨⟨vs, wr⟩, _, _, h1, h, _⟩ := bind_inv h
  obtain ⟨l, _, _, h2, h, _⟩ := bind_inv h
  obtain ⟨_, _, _, h3, h, _⟩ := bind_inv h
  have hnd := nodupB_spec (need_inv h3).1
  obtain ⟨es, _, _, h4, h, _⟩ := bind_inv h
  obtain ⟨⟨v, bs, news⟩, _, _, h5, h, _⟩ := bind_inv h
  have h5 := (lift_inv h5).1
  obtain ⟨_, _, _, h6, h, _⟩ := bind_inv h
  have h6 := (need_inv h6).1
  simp only [Bool.and_eq_true, decide_eq_true_eq, List.all_eq_true] at h6
  obtain ⟨hbl, hbe, hne⟩ := h6
  obtain ⟨_, _, _, h7, h, _⟩ := bind_inv h
  have h7 := (need_inv h7).1
  obtain ⟨gl, _, _, h8, h, _⟩ := bind_inv h
  have hgl := gens_inv h8
  obtain ⟨rfl, _⟩ := pure_inv h
  -- what is given up for reading
  obtain ⟨S1, T1, D1, t1, i1⟩ := pub_state S (pubs_w h1)
  have R1 := pubs_val S T1 h1 D1 R
  obtain ⟨hes, hent⟩ := entries_inv h4
  generalize hs1 : upds s wr = s1 at *
  have esget : ∀ (k : Nat) x, l[k]? = some x → es[k]? = some (s1 (.i x)) := fun k x hx => by rw [hes, List.getElem?_map, hx]; rfl
  have eslen : es.length = l.length := by rw [hes]; simp
  obtain ⟨m, hm⟩ : ∃ m, m = renTo l es Id.arg := ⟨_, rfl⟩
  have hm1 : ∀ id id' cur new, m id = some (id', cur, new) → ∃ k, l[k]? = some id ∧ id' = .arg k ∧ cur = gen (s1 (.i id)) ∧ new = 0 := fun id id' cur new hh => by
    rw [hm] at hh
    unfold renTo at hh
    split at hh
    · rename_i k hk
      have hk := idx?_some hk
      rw [esget k id hk] at hh
      cases hh
      exact ⟨k, hk, rfl, rfl, rfl⟩
    · cases hh
  rw [← hm] at h5
  -- the callee's state
  obtain ⟨sc, hsc⟩ : ∃ sc, sc = enterA (renL m vs) ((renL m es).map (setGen 0)) := ⟨_, rfl⟩
  have scarg : ∀ (k : Nat) x, l[k]? = some x → sc (.i (.arg k)) = setGen 0 (renV m (s1 (.i x))) := fun k x hx => by
    rw [hsc]
    simp only [enterA]
    refine getD_get ?_
    rw [renL_map, List.map_map, List.getElem?_map, esget k x hx]
    rfl
  have scnot : ∀ id, (∀ k, id = .arg k → l[k]? = none) → sc (.i id) = .tup [] := fun id hid => by
    rw [hsc]
    cases id with
    | arg k =>
      simp only [enterA]
      refine getD_not ?_
      have := hid k rfl
      rw [renL_map, List.map_map, List.getElem?_map, hes, List.getElem?_map, this]
      rfl
    | _ => rfl
  let μc : Mu := fun id => match id with
    | .arg k => (l[k]?).bind μ
    | _ => none
  have μcarg : ∀ (k : Nat) x, l[k]? = some x → μc (.arg k) = μ x := fun k x hx => by simp only [μc, hx, Option.bind_some]
  have mcarg : ∀ (k : Nat) x, l[k]? = some x → isMut (sc (.i (.arg k))) = isMut (s1 (.i x)) := fun k x hx => by rw [scarg k x hx, isMut_ren]
  have mutc : ∀ {id : Id}, isMut (sc (.i id)) = true → ∃ k x, id = .arg k ∧ l[k]? = some x := fun {id} hmu => by
    by_cases hid : ∀ k, id = .arg k → l[k]? = none
    · rw [scnot id hid] at hmu; cases hmu
    · simp only [Classical.not_forall] at hid
      obtain ⟨k, rfl, hk⟩ := hid
      cases hx : l[k]? with
      | none => exact (hk hx).elim
      | some x => exact ⟨k, x, rfl, hx⟩
  let Fc : Nat → Prop := fun b => F b ∨ ∃ id c, id ∉ l ∧ μ id = some (b, c) ∧ isMut (s1 (.i id)) = true
  have hF1 : ∀ {b}, Fc b → b < w.heap.size := fun {b} hb => by
    rcases hb with hb | ⟨id, c, _, e1, e2⟩
    · exact S1.low b hb
    · exact S1.lt e2 e1
  have mutc_of : ∀ {b}, MutB μc sc b → MutB μ s1 b := fun {b} ⟨id, c, e1, e2⟩ => by
    obtain ⟨k, x, rfl, hx⟩ := mutc e2
    rw [μcarg k x hx] at e1
    rw [mcarg k x hx] at e2
    exact ⟨x, c, e1, e2⟩
  have notc_F : ∀ {b}, Fc b → ¬MutB μc sc b := fun {b} hb ⟨id, c, e1, e2⟩ => by
    obtain ⟨k, x, rfl, hx⟩ := mutc e2
    rw [μcarg k x hx] at e1
    rw [mcarg k x hx] at e2
    rcases hb with hb | ⟨id', c', k1, k2, k3⟩
    · obtain ⟨b', c', arr, el, q1, _, q2⟩ := S1.blk e2
      rw [e1] at q1
      cases q1
      exact q2 hb
    · have := S1.inj id' x _ _ _ k2 e1 k3 e2
      subst this
      exact k1 (List.mem_of_getElem? hx)
  have immc : ∀ b, Imm w.heap F μ s1 b → Imm w.heap Fc μc sc b := fun b ⟨q1, q2, q3⟩ => by
    refine ⟨q1, fun hb => ?_, fun hb => q3 (mutc_of hb)⟩
    rcases hb with hb | ⟨id', c', k1, k2, k3⟩
    · exact q2 hb
    · exact q3 ⟨id', c', k2, k3⟩
  have gsc : ∀ (k : Nat) x, l[k]? = some x → gen (sc (.i (.arg k))) = 0 := fun k x hx => by
    rw [scarg k x hx, gen_ren (hent x (List.mem_of_getElem? hx))]
  have MR : RenOk m (Gs s1) μ (Gs sc) μc := ⟨fun id id' cur new hh => by
    obtain ⟨k, hk, rfl, rfl, rfl⟩ := hm1 id id' cur new hh
    exact ⟨rfl, (gsc k id hk).symm, μcarg k id hk⟩⟩
  have Sc : SRel w.heap Fc μc sc := by
    refine ⟨fun b hb => hF1 hb, fun id => ?_, fun id id' b c c' e1 e2 m1 m2 => ?_, S1.tab.same fun b hb => mutc_of hb⟩
    · by_cases hid : ∀ k, id = .arg k → l[k]? = none
      · rw [scnot id hid]; trivial
      · simp only [Classical.not_forall] at hid
        obtain ⟨k, rfl, hk⟩ := hid
        cases hx : l[k]? with
        | none => exact (hk hx).elim
        | some x =>
          rw [scarg k x hx, μcarg k x hx]
          refine EntOk.ren MR immc (fun b c e1 e2 hb hb' => ?_) (S1.ent x)
          exact notc_F hb' ⟨.arg k, c, by rw [μcarg k x hx]; exact e1, by rw [mcarg k x hx]; exact e2⟩
    · obtain ⟨k, x, rfl, hx⟩ := mutc m1
      obtain ⟨k', x', rfl, hx'⟩ := mutc m2
      rw [μcarg k x hx] at e1
      rw [mcarg k x hx] at m1
      rw [μcarg k' x' hx'] at e2
      rw [mcarg k' x' hx'] at m2
      have := S1.inj x x' b c c' e1 e2 m1 m2
      subst this
      rw [get_inj hnd hx hx']
  have Rc : RL Fc w μc sc (renL m vs) cvals.toList := by
    have := renL_rep MR _ _ R1
    exact RepL.mono ⟨immc, fun _ _ => rfl⟩ ⟨fun _ => Nat.le_refl _, fun _ _ => rfl⟩ _ _ this
  rw [hsc] at Sc Rc
  obtain ⟨hcall, hret⟩ := hf _ _ _ _ _ h5
  refine ⟨hcall, (hret Fc w μc cvals Sc Rc).mono ?_⟩
  rw [← hsc] at Sc Rc ⊢
  rintro en w' ⟨cv, μ2, rfl, S2, R2, T2, io2⟩
  refine ⟨cv, ?_⟩
  -- the state behind the call
  have outarg : ∀ (k : Nat) b, bs[k]? = some b → outSt bs news (.i (.arg k)) = b := fun k b hb => by simp only [outSt]; exact getD_get hb
  have outret : ∀ (k : Nat) b, news[k]? = some b → outSt bs news (.i (.ret k)) = b := fun k b hb => by simp only [outSt]; exact getD_get hb
  have mutout : ∀ {id : Id}, isMut (outSt bs news (.i id)) = true → (∃ k b, id = .arg k ∧ bs[k]? = some b) ∨ (∃ k b, id = .ret k ∧ news[k]? = some b) := fun {id} hmu => by
    cases id with
    | arg k =>
      cases hb : bs[k]? with
      | none => simp only [outSt] at hmu; rw [getD_not hb] at hmu; cases hmu
      | some b => exact .inl ⟨k, b, rfl, hb⟩
    | ret k =>
      cases hb : news[k]? with
      | none => simp only [outSt] at hmu; rw [getD_not hb] at hmu; cases hmu
      | some b => exact .inr ⟨k, b, rfl, hb⟩
    | site a b c => simp only [outSt] at hmu; cases hmu
  have lget : ∀ (k : Nat) b, bs[k]? = some b → ∃ x, l[k]? = some x := fun k b hb => by
    have := (List.getElem?_eq_some_iff.1 hb).1
    have : k < l.length := by omega
    exact ⟨l[k], by simp [this]⟩
  have bget : ∀ (k : Nat) x, l[k]? = some x → ∃ b, bs[k]? = some b := fun k x hx => by
    have := (List.getElem?_eq_some_iff.1 hx).1
    have : k < bs.length := by omega
    exact ⟨bs[k], by simp [this]⟩
  obtain ⟨gs, hgs⟩ : ∃ gs : Nat → Nat, gs = fun j => gl.getD j 0 := ⟨_, rfl⟩
  have gsget : ∀ k, k < news.length → gs k = gen (s1 (.i (.site r o k))) := fun k hk => by
    have hpub : gen (s1 (.i (.site r o k))) = gen (s (.i (.site r o k))) := by
      rw [← hs1]
      exact gen_pub (by rw [hs1]; exact i1 _)
    rw [hgs, hpub]
    have := hgl k hk
    rw [Nat.zero_add] at this
    exact getD_get this
  obtain ⟨m', hm'⟩ : ∃ m', m' = renBack r o l es bs news gs := ⟨_, rfl⟩
  rw [show (fun j => gl.getD j 0) = gs from hgs.symm, ← hm']
  have sitenot : ∀ k, k < news.length → Id.site r o k ∉ l := fun k hk => by
    simp only [Bool.or_eq_true, List.isEmpty_iff] at h7
    rcases h7 with h7 | h7
    · rw [h7] at hk; simp at hk
    · exact noSite_spec h7 k
  obtain ⟨sF, hsF⟩ : ∃ sF, sF = upds s (wr ++ (backW m' l es bs ++ newsW m' r o gs 0 news)) := ⟨_, rfl⟩
  have hsF' : sF = upds (upds s1 (backW m' l es bs)) (newsW m' r o gs 0 news) := by rw [hsF, upds_append, upds_append, hs1]
  have isSiteOf : ∀ id : Id, (∃ k, k < news.length ∧ id = .site r o k) ∨ ∀ k, k < news.length → id ≠ .site r o (0 + k) := fun id => by
    by_cases hh : ∃ k, k < news.length ∧ id = .site r o k
    · exact .inl hh
    · exact .inr fun k hk he => hh ⟨k, hk, by rw [he, Nat.zero_add]⟩
  have sFl : ∀ (k : Nat) x b, l[k]? = some x → bs[k]? = some b → sF (.i x) = setGen (gen (s1 (.i x)) + gen b) (renV m' b) := fun k x b hx hb => by
    rw [hsF', newsW_not (fun j hj he => sitenot j hj (by rw [← (Nat.zero_add j), ← he]; exact List.mem_of_getElem? hx)), backW_at hnd k x _ b hx (esget k x hx) hb]
  have sFn : ∀ (k : Nat) b, news[k]? = some b → sF (.i (.site r o k)) = setGen (gs k + gen b) (renV m' b) := fun k b hb => by
    have := newsW_at (m := m') (r := r) (o := o) (gs := gs) (j := 0) (s := upds s1 (backW m' l es bs)) k b hb
    rw [Nat.zero_add] at this
    rw [hsF']; exact this
  have sFo : ∀ id, id ∉ l → (∀ k, k < news.length → id ≠ .site r o (0 + k)) → sF (.i id) = s1 (.i id) := fun id h1 h2 => by
    rw [hsF', newsW_not h2, backW_not h1]
  let μF : Mu := fun id => match idx? l id with
    | some k => μ2 (.arg k)
    | none => match id with
      | .site a b k => if a = r ∧ b = o ∧ k < news.length then μ2 (.ret k) else μ id
      | _ => μ id
  have μFl : ∀ (k : Nat) x, l[k]? = some x → μF x = μ2 (.arg k) := fun k x hx => by simp only [μF, idx?_get hnd hx]
  have idxnone : ∀ x, x ∉ l → idx? l x = none := fun x hx => by
    cases hi : idx? l x with
    | none => rfl
    | some k => exact (hx (List.mem_of_getElem? (idx?_some hi))).elim
  have μFn : ∀ k, k < news.length → μF (.site r o k) = μ2 (.ret k) := fun k hk => by
    simp only [μF, idxnone _ (sitenot k hk)]
    rw [if_pos ⟨trivial, trivial, hk⟩]
  have μFo : ∀ id, id ∉ l → (∀ k, k < news.length → id ≠ .site r o (0 + k)) → μF id = μ id := fun id h1 h2 => by
    simp only [μF, idxnone _ h1]
    cases id with
    | site a b k =>
      by_cases hh : a = r ∧ b = o ∧ k < news.length
      · obtain ⟨rfl, rfl, hk⟩ := hh
        exact (h2 k hk (by rw [Nat.zero_add])).elim
      · simp only [if_neg hh]
    | _ => rfl
  have cases3 : ∀ id : Id, (∃ (k : Nat) (b : AV), l[k]? = some id ∧ bs[k]? = some b) ∨ (∃ (k : Nat) (b : AV), id = .site r o k ∧ news[k]? = some b) ∨ (id ∉ l ∧ ∀ k, k < news.length → id ≠ .site r o (0 + k)) := fun id => by
    by_cases hl : id ∈ l
    · obtain ⟨k, hk⟩ := List.mem_iff_getElem?.1 hl
      obtain ⟨b, hb⟩ := bget k id hk
      exact .inl ⟨k, b, hk, hb⟩
    · rcases isSiteOf id with ⟨k, hk, rfl⟩ | hh
      · exact .inr (.inl ⟨k, news[k], rfl, by simp [hk]⟩)
      · exact .inr (.inr ⟨hl, hh⟩)
  have mutF : ∀ {b}, MutB μF sF b → MutB μ2 (outSt bs news) b ∨ ∃ id c, id ∉ l ∧ μ id = some (b, c) ∧ isMut (s1 (.i id)) = true := fun {b} ⟨id, c, e1, e2⟩ => by
    rcases cases3 id with ⟨k, b', hk, hb⟩ | ⟨k, b', rfl, hb⟩ | ⟨h1, h2⟩
    · rw [μFl k id hk] at e1
      rw [sFl k id b' hk hb, isMut_ren] at e2
      exact .inl ⟨.arg k, c, e1, by rw [outarg k b' hb]; exact e2⟩
    · have hk := (List.getElem?_eq_some_iff.1 hb).1
      rw [μFn k hk] at e1
      rw [sFn k b' hb, isMut_ren] at e2
      exact .inl ⟨.ret k, c, e1, by rw [outret k b' hb]; exact e2⟩
    · rw [μFo id h1 h2] at e1
      rw [sFo id h1 h2] at e2
      exact .inr ⟨id, c, h1, e1, e2⟩
  have T3 : Tr w.heap μ s1 w'.heap μF sF := by
    refine ⟨T2.size, fun b hb hn => T2.keep b hb fun hh => hn (mutc_of hh), fun b hb => ?_, fun id => ?_, fun id he => ?_⟩
    · rcases mutF hb with hb | ⟨id, c, _, e1, e2⟩
      · rcases T2.mt b hb with hb | hb
        · exact .inl (mutc_of hb)
        · exact .inr hb
      · exact .inl ⟨id, c, e1, e2⟩
    · rcases cases3 id with ⟨k, b', hk, hb⟩ | ⟨k, b', rfl, hb⟩ | ⟨h1, h2⟩
      · simp only [Gs, sFl k id b' hk hb, gen_ren (hbe b' (List.mem_of_getElem? hb))]
        exact Nat.le_add_right _ _
      · have hk := (List.getElem?_eq_some_iff.1 hb).1
        have := hne b' (List.mem_of_getElem? hb)
        simp only [Gs, sFn k b' hb, gen_ren this.1, gsget k hk]
        exact Nat.le_add_right _ _
      · simp only [Gs, sFo id h1 h2]
        exact Nat.le_refl _
    · rcases cases3 id with ⟨k, b', hk, hb⟩ | ⟨k, b', rfl, hb⟩ | ⟨h1, h2⟩
      · simp only [Gs, sFl k id b' hk hb, gen_ren (hbe b' (List.mem_of_getElem? hb))] at he
        have hg : gen b' = 0 := by omega
        rw [μFl k id hk, T2.addr (.arg k) (by simp only [Gs, outarg k b' hb, gsc k id hk, hg]), μcarg k id hk]
      · have hk := (List.getElem?_eq_some_iff.1 hb).1
        have := hne b' (List.mem_of_getElem? hb)
        simp only [Gs, sFn k b' hb, gen_ren this.1, gsget k hk] at he
        omega
      · exact μFo id h1 h2
  have immF : ∀ b, Imm w'.heap Fc μ2 (outSt bs news) b → Imm w'.heap F μF sF b := fun b ⟨q1, q2, q3⟩ => by
    refine ⟨q1, fun hb => q2 (.inl hb), fun hb => ?_⟩
    rcases mutF hb with hb | hb
    · exact q3 hb
    · exact q2 (.inr hb)
  have MB : RenOk m' (Gs (outSt bs news)) μ2 (Gs sF) μF := ⟨fun id id' cur new hh => by
    rw [hm'] at hh
    cases id with
    | arg k =>
      simp only [renBack] at hh
      split at hh
      · rename_i x e b hx he hb
        cases hh
        rw [esget k id' hx] at he
        cases he
        refine ⟨by simp only [Gs, outarg k b hb], ?_, μFl k id' hx⟩
        simp only [Gs, sFl k id' b hx hb, gen_ren (hbe b (List.mem_of_getElem? hb))]
      · cases hh
    | ret k =>
      simp only [renBack] at hh
      split at hh
      · rename_i b hb
        cases hh
        have hk := (List.getElem?_eq_some_iff.1 hb).1
        refine ⟨by simp only [Gs, outret k b hb], ?_, μFn k hk⟩
        simp only [Gs, sFn k b hb, gen_ren (hne b (List.mem_of_getElem? hb)).1]
      · cases hh
    | site a b c => simp only [renBack] at hh; cases hh⟩
  have SF : SRel w'.heap F μF sF := by
    refine ⟨fun b hb => Nat.lt_of_lt_of_le (S1.low b hb) T2.size, fun id => ?_, fun id id' b c c' e1 e2 m1 m2 => ?_, S1.tabTr T3⟩
    · rcases cases3 id with ⟨k, b', hk, hb⟩ | ⟨k, b', rfl, hb⟩ | ⟨h1, h2⟩
      · have := S2.ent (.arg k)
        rw [outarg k b' hb] at this
        rw [sFl k id b' hk hb, μFl k id hk]
        exact EntOk.ren MB immF (fun b c _ _ hb hb' => hb (.inl hb')) this
      · have hk := (List.getElem?_eq_some_iff.1 hb).1
        have := S2.ent (.ret k)
        rw [outret k b' hb] at this
        rw [sFn k b' hb, μFn k hk]
        exact EntOk.ren MB immF (fun b c _ _ hb hb' => hb (.inl hb')) this
      · rw [sFo id h1 h2, μFo id h1 h2]
        refine (S1.ent id).mono T3 fun b c e1 e2 => ?_
        exact T2.keep b (S1.lt e2 e1) (notc_F (.inr ⟨id, c, h1, e1, e2⟩))
    · -- no two names for one block
      have notF : ∀ {id : Id} {b c : Nat}, μ2 id = some (b, c) → isMut (outSt bs news (.i id)) = true → ¬Fc b := fun {id b c} e1 e2 => by
        obtain ⟨b', c', arr, el, q1, _, q2⟩ := S2.blk e2
        rw [e1] at q1
        cases q1
        exact q2
      have view : ∀ {id : Id} {b c : Nat}, μF id = some (b, c) → isMut (sF (.i id)) = true → (∃ id2, μ2 id2 = some (b, c) ∧ isMut (outSt bs news (.i id2)) = true ∧ ((∃ k, id2 = .arg k ∧ l[k]? = some id) ∨ (∃ k, id2 = .ret k ∧ id = .site r o k))) ∨ (id ∉ l ∧ μ id = some (b, c) ∧ isMut (s1 (.i id)) = true) := fun {id b c} e1 e2 => by
        rcases cases3 id with ⟨k, b', hk, hb⟩ | ⟨k, b', rfl, hb⟩ | ⟨h1, h2⟩
        · rw [μFl k id hk] at e1
          rw [sFl k id b' hk hb, isMut_ren] at e2
          exact .inl ⟨.arg k, e1, by rw [outarg k b' hb]; exact e2, .inl ⟨k, rfl, hk⟩⟩
        · have hk := (List.getElem?_eq_some_iff.1 hb).1
          rw [μFn k hk] at e1
          rw [sFn k b' hb, isMut_ren] at e2
          exact .inl ⟨.ret k, e1, by rw [outret k b' hb]; exact e2, .inr ⟨k, rfl, rfl⟩⟩
        · rw [μFo id h1 h2] at e1
          rw [sFo id h1 h2] at e2
          exact .inr ⟨h1, e1, e2⟩
      rcases view e1 m1 with ⟨i2, a1, a2, a3⟩ | ⟨a1, a2, a3⟩
      · rcases view e2 m2 with ⟨i2', b1, b2, b3⟩ | ⟨b1, b2, b3⟩
        · have := S2.inj i2 i2' b c c' a1 b1 a2 b2
          subst this
          rcases a3 with ⟨k, rfl, hk⟩ | ⟨k, rfl, rfl⟩
          · rcases b3 with ⟨k', e, hk'⟩ | ⟨k', e, _⟩
            · cases e
              rw [hk] at hk'
              exact Option.some.inj hk'
            · cases e
          · rcases b3 with ⟨k', e, _⟩ | ⟨k', e, rfl⟩
            · cases e
            · cases e; rfl
        · exact (notF a1 a2 (.inr ⟨id', c', b1, b2, b3⟩)).elim
      · rcases view e2 m2 with ⟨i2', b1, b2, b3⟩ | ⟨b1, b2, b3⟩
        · exact (notF b1 b2 (.inr ⟨id, c, a1, a2, a3⟩)).elim
        · exact S1.inj id id' b c c' a2 b2 a3 b3
  refine ⟨μF, rfl, ?_, ?_, ?_, fun t => ?_⟩
  · show SRel _ _ _ (upds s (wr ++ _))
    rw [← hsF]; exact SF
  · show RepV _ (Imm _ _ _ (upds s (wr ++ _))) (Gs (upds s (wr ++ _))) _ _ _
    rw [← hsF]
    exact RepV.mono ⟨immF, fun _ _ => rfl⟩ ⟨fun _ => Nat.le_refl _, fun _ _ => rfl⟩ _ _ (renV_rep MB _ _ R2)
  · refine ⟨?_, io2⟩
    show Tr _ _ _ _ _ (upds s (wr ++ _))
    rw [← hsF]; exact T1.trans T3
  · show upds s (wr ++ _) _ = _
    rw [← hsF, hsF', newsW_t, backW_t]; exact t1 t
end Go.Am
/-
Operations, last part: whatever the evaluator comes to, the machine comes to.
-/
namespace Go.Am
open Go
theorem newBox_ok {P : Program} {F : Nat → Prop} {w : World} {μ : Mu} {s : St} (S : SRel w.heap F μ s) {r j : Nat} {cells : List AV} {arr : Array Value} {el : TypeId} {e : Eff} {l : List Loc} {o : Oper} {a : Act}
    (h : newBox r j cells s = some (e, l)) (R : RL F w μ s cells arr.toList)
    (hr : (execOp a.eval o).run P w = .ok (.value (.pointer (some ⟨w.heap.size, 0, none⟩))) { w with heap := w.heap.push (.cells arr el) }) : OpOk P F w μ s e o a := by
  obtain ⟨μ', hp⟩ := newBox_sound (elem := el) S h R
  exact opOk_value hr hp
theorem callOpA_sound {P : Program} {F : Nat → Prop} {w : World} {μ : Mu} {s : St} (S : SRel w.heap F μ s) {call : Fs} (hc : ∀ f, SoundF P f (call f)) {a : Act} (A : ARel F w μ s a) {r j : Nat} {c : Call} {o : Oper} {e : Eff} {lg : List Loc}
    (ho : o.op = .call c) (h : callOpA P call r j c s = some (e, lg)) : OpOk P F w μ s e o a := by
  obtain ⟨dst, op, type, pos, after, guard⟩ := o
  subst ho
  obtain ⟨callee, args, argTypes⟩ := c
  cases callee with
  | builtin b =>
    obtain ⟨vs, _, _, h1, h, _⟩ := bind_inv h
    have R := evOs_sound A h1
    have hargs : args.toList.map a.eval = (args.map a.eval).toList := by simp
    rw [hargs] at R
    generalize hcs : args.map a.eval = cs at R
    have exec : ∀ {v : Value} {w' : World}, (builtin b argTypes type (args.map fun | .const _ => true | _ => false) cs).run P w = .ok (.value v) w' →
        (execOp a.eval ⟨dst, .call ⟨.builtin b, args, argTypes⟩, type, pos, after, guard⟩).run P w = .ok (.value v) w' := fun {v w'} hh => by
      simp only [execOp, resolve, hcs, Sem.run_bind, Sem.run_pure, Result.andThen_ok, invoke]
      exact hh
    generalize hts : typesOf ⟨.builtin b, args, argTypes⟩ = ts at h
    have hat : argTypes.toList = ts := hts
    cases b <;> first | exact (fail_inv (s := s) h).elim | skip
    · rcases ts with _ | ⟨t, _ | ⟨tx, _ | ⟨_, _⟩⟩⟩ <;> rcases vs with _ | ⟨x, _ | ⟨y, _ | ⟨_, _⟩⟩⟩ <;> first | exact (fail_inv (s := s) h).elim | skip
      obtain ⟨cs⟩ := cs
      rcases cs with _ | ⟨cx, _ | ⟨cy, _ | ⟨_, _⟩⟩⟩ <;> first | exact R.elim | exact R.2.elim | exact R.2.2.elim | skip
      have hat : argTypes = #[t, tx] := by apply Array.ext'; exact hat
      obtain ⟨v, μ', w', v1, v2⟩ := appendA_sound S type h R.1 R.2.1
      exact opOk_value (exec (by simp only [builtin, Sem.run_bind, hat, v1, Result.andThen_ok, Sem.run_pure])) v2
    · rcases ts with _ | ⟨t, _ | ⟨tx, _⟩⟩ <;> rcases vs with _ | ⟨x, _ | ⟨y, _⟩⟩ <;> first | exact (fail_inv (s := s) h).elim | skip
      obtain ⟨cs⟩ := cs
      rcases cs with _ | ⟨cx, _ | ⟨cy, _⟩⟩ <;> first | exact R.elim | exact R.2.elim | skip
      have hat : argTypes = #[t] := by apply Array.ext'; exact hat
      obtain ⟨v, v1, v2⟩ := lenA_sound (tyr := type) S h R.1
      exact opOk_value (exec (by simp only [builtin, Sem.run_bind, hat, v1, Result.andThen_ok, Sem.run_pure])) v2
    · rcases vs with _ | ⟨x, l⟩
      · exact (fail_inv (s := s) h).elim
      obtain ⟨cs⟩ := cs
      rcases cs with _ | ⟨cx, cs⟩
      · exact R.elim
      obtain ⟨v, _, _, h2, h, _⟩ := bind_inv h
      obtain ⟨rfl, _⟩ := ret_inv h
      obtain ⟨u, u1, u2⟩ := foldA_sound (P := P) (w := w) max2A_sound l cs x v cx (lift_inv h2).1 R.1 R.2
      exact opOk_value (exec (by simp only [builtin, Builtin.max_, Sem.run_bind, u1, Result.andThen_ok, Sem.run_pure])) (post_ret S rfl u2)
    · rcases vs with _ | ⟨x, l⟩
      · exact (fail_inv (s := s) h).elim
      obtain ⟨cs⟩ := cs
      rcases cs with _ | ⟨cx, cs⟩
      · exact R.elim
      obtain ⟨v, _, _, h2, h, _⟩ := bind_inv h
      obtain ⟨rfl, _⟩ := ret_inv h
      obtain ⟨u, u1, u2⟩ := foldA_sound (P := P) (w := w) min2A_sound l cs x v cx (lift_inv h2).1 R.1 R.2
      exact opOk_value (exec (by simp only [builtin, Builtin.min_, Sem.run_bind, u1, Result.andThen_ok, Sem.run_pure])) (post_ret S rfl u2)
  | value f =>
    obtain ⟨fv, _, _, h1, h, _⟩ := bind_inv h
    obtain ⟨vs, _, _, h2, h, _⟩ := bind_inv h
    have Rf := evO_sound A h1
    have R := evOs_sound A h2
    cases fv with
    | fn g first cap =>
      obtain ⟨u, cp, hf, R1, R2⟩ := Rf
      have hargs : args.toList.map a.eval = (args.map a.eval).toList := by simp
      rw [hargs] at R
      have R' : RL F w μ s (first ++ (vs ++ cap)) ((u ++ args.map a.eval) ++ cp).toList := by
        rw [Array.toList_append, Array.toList_append, List.append_assoc]
        exact R1.append (R.append R2)
      obtain ⟨⟨fn, c, k1, k2, k3⟩, hcall⟩ := callA_sound S (hc g) h R'
      intro next Q H
      have hexec : (execOp a.eval ⟨dst, .call ⟨.value f, args, argTypes⟩, type, pos, after, guard⟩).run P w = .ok (.enter g ((u ++ args.map a.eval) ++ cp)) w := by
        simp only [execOp, resolve, hf, Deferred.ofValue, Sem.run_bind, Sem.run_pure, Result.andThen_ok, invoke, callFunc, run_program, k1, k2, k3, Option.isNone_some, Bool.false_eq_true, if_false]
      unfold Oper.wp
      rw [hexec, Oper.upon_enter]
      refine hcall.mono ?_
      rintro en w' ⟨cv, μ', rfl, hp⟩
      exact H _ _ _ hp
    | _ => exact (fail_inv h).elim
  | invoke rv m => exact (fail_inv (s := s) h).elim
theorem opA_sound {P : Program} {F : Nat → Prop} {w : World} {μ : Mu} {s : St} (S : SRel w.heap F μ s) {call : Fs} (hc : ∀ f, SoundF P f (call f)) {a : Act} (A : ARel F w μ s a) {r j : Nat} {o : Oper} {e : Eff} {lg : List Loc}
    (h : opA P call r j o.op s = some (e, lg)) : OpOk P F w μ s e o a := by
  obtain ⟨dst, op, type, pos, after, guard⟩ := o
  cases op with
  | move x =>
    obtain ⟨v, _, _, h1, h, _⟩ := bind_inv h
    obtain ⟨rfl, _⟩ := ret_inv h
    exact opOk_value rfl (post_ret S rfl (evO_sound A h1))
  | assign x =>
    obtain ⟨v, _, _, h1, h, _⟩ := bind_inv h
    obtain ⟨rfl, _⟩ := ret_inv h
    exact opOk_value rfl (post_ret S rfl (evO_sound A h1))
  | pick c x y =>
    obtain ⟨cv, _, _, h1, h, _⟩ := bind_inv h
    have Rc := evO_sound A h1
    cases cv with
    | pv p =>
      cases p with
      | bool b =>
        have Rc : a.eval c = .bool b := Rc
        cases b with
        | true =>
          obtain ⟨v, _, _, h2, h, _⟩ := bind_inv h
          obtain ⟨rfl, _⟩ := ret_inv h
          exact opOk_value (by simp only [execOp, Rc, asBool, Sem.run_bind, Sem.run_pure, Result.andThen_ok, if_true]) (post_ret S rfl (evO_sound A h2))
        | false =>
          obtain ⟨v, _, _, h2, h, _⟩ := bind_inv h
          obtain ⟨rfl, _⟩ := ret_inv h
          exact opOk_value (by simp only [execOp, Rc, asBool, Sem.run_bind, Sem.run_pure, Result.andThen_ok, Bool.false_eq_true, if_false]) (post_ret S rfl (evO_sound A h2))
      | _ => exact (fail_inv h).elim
    | _ => exact (fail_inv h).elim
  | alloc el =>
    obtain ⟨ty, _, _, h1, h, _⟩ := bind_inv h
    obtain ⟨i, d, ti, td, t1, t2, t3, t4, t5⟩ := tyA_inv (lift_inv h1).1
    obtain ⟨z, _, _, h2, h, _⟩ := bind_inv h
    have h2 := (lift_inv h2).1
    rw [t5] at h2
    obtain ⟨zv, hz, hz2⟩ := Option.bind_eq_some_iff.1 h2
    exact newBox_ok (el := el) S h (cellsOf_rep hz2) (by simp only [execOp, Instr.alloc, Sem.run_bind, run_zeroValue w ti hz, Result.andThen_ok, newVar, newRow, run_newObj, Sem.run_pure])
  | box el x =>
    obtain ⟨v, _, _, h1, h, _⟩ := bind_inv h
    obtain ⟨_, _, _, hn, _, _⟩ := bind_inv h
    have R := (evO_sound A h1).flat (need_inv hn).1
    exact newBox_ok (el := el) S h R.1 (by simp only [execOp, Instr.box, Sem.run_bind, Result.andThen_ok, newVar, newRow, run_newObj, Sem.run_pure])
  | build t parts =>
    obtain ⟨ps, _, _, h1, h, _⟩ := bind_inv h
    have Q := evParts_sound A h1
    obtain ⟨v, v1, v2⟩ := buildA_sound (vparts := parts.map fun (i, x) => (i, a.eval x)) S h (by simpa using Q)
    exact opOk_value (by simp only [execOp, Sem.run_bind, v1, Result.andThen_ok, Sem.run_pure]) v2
  | buildSlice t n parts =>
    obtain ⟨ps, _, _, h1, h, _⟩ := bind_inv h
    have Q := evParts_sound A h1
    obtain ⟨v, μ', w', v1, v2⟩ := buildSliceA_sound (vparts := parts.map fun (i, x) => (i, a.eval x)) S h (by simpa using Q)
    exact opOk_value (by simp only [execOp, Sem.run_bind, v1, Result.andThen_ok, Sem.run_pure]) v2
  | load t x =>
    obtain ⟨p, _, _, h1, h, _⟩ := bind_inv h
    obtain ⟨v, _, _, h2, h, _⟩ := bind_inv h
    obtain ⟨rfl, _⟩ := ret_inv h
    obtain ⟨ad, u, u1, u2, u3⟩ := loadA_sound S h2 (evO_sound A h1)
    exact opOk_value (by simp only [execOp, Instr.loadAt, u1, Instr.sureAddr, Sem.run_bind, Sem.run_pure, Result.andThen_ok, u2]) (post_ret S rfl u3)
  | store t x y =>
    obtain ⟨p, _, _, h1, h, _⟩ := bind_inv h
    obtain ⟨v, _, _, h2, h, _⟩ := bind_inv h
    obtain ⟨w', u1, u2⟩ := storeA_sound S h (evO_sound A h1) (evO_sound A h2)
    exact opOk_skip (by simp only [execOp, Sem.run_bind, u1, Result.andThen_ok, Sem.run_pure]) u2
  | nilCheck x =>
    obtain ⟨v, _, _, h1, h, _⟩ := bind_inv h
    have R := evO_sound A h1
    cases v with
    | ptr id g off =>
      obtain ⟨rfl, _⟩ := ret_inv h
      have ⟨_, ⟨ad, hx⟩, _⟩ := R
      exact opOk_value (by simp only [execOp, hx, Sem.run_pure]; rfl) (post_ret S rfl (by rw [← hx]; exact R))
    | rptr c off =>
      obtain ⟨rfl, _⟩ := ret_inv h
      have ⟨b, o', hx, _, _⟩ := R
      exact opOk_value (by simp only [execOp, hx, Sem.run_pure]; rfl) (post_ret S rfl (by rw [← hx]; exact R))
    | _ => exact (fail_inv h).elim
  | binOp op t x y yt =>
    obtain ⟨u, _, _, h1, h, _⟩ := bind_inv h
    obtain ⟨v, _, _, h2, h, _⟩ := bind_inv h
    cases hb : binNil P op t x y u v with
    | none =>
      have h : (match binNil P op t x y u v with
        | some p => ret (.pv p)
        | none => RM.fail) s = some (e, _) := h
      rw [hb] at h
      exact (fail_inv h).elim
    | some p =>
      have h : (match binNil P op t x y u v with
        | some p => ret (.pv p)
        | none => RM.fail) s = some (e, _) := h
      rw [hb] at h
      obtain ⟨rfl, _⟩ := ret_inv h
      obtain ⟨q, q1, q2⟩ := binNil_sound S hb (evO_sound A h1) (evO_sound A h2)
      exact opOk_value (by
        show (((do eqGuard op t x y (a.eval x) (a.eval y); Go.binOp op t (a.eval x) (a.eval y)) : Sem Value) >>= fun z => pure (Next.value z)).run P w = _
        simp only [Sem.run_bind] at q1 ⊢
        rw [q1]
        rfl) (post_ret S rfl q2)
  | unOp op t x =>
    obtain ⟨u, _, _, h1, h, _⟩ := bind_inv h
    cases hb : unA op u with
    | none =>
      have h : (match unA op u with
        | some p => ret (.pv p)
        | none => RM.fail) s = some (e, _) := h
      rw [hb] at h
      exact (fail_inv h).elim
    | some p =>
      have h : (match unA op u with
        | some p => ret (.pv p)
        | none => RM.fail) s = some (e, _) := h
      rw [hb] at h
      obtain ⟨rfl, _⟩ := ret_inv h
      obtain ⟨q, q1, q2⟩ := unA_sound (P := P) hb (evO_sound A h1)
      exact opOk_value (by simp only [execOp, Sem.run_bind, q1, Result.andThen_ok, Sem.run_pure]) (post_ret S rfl q2)
  | convert src dst' x =>
    obtain ⟨u, _, _, h1, h, _⟩ := bind_inv h
    obtain ⟨v, μ', w', v1, v2⟩ := convA_sound S h (evO_sound A h1)
    exact opOk_value (by simp only [execOp, Sem.run_bind, v1, Result.andThen_ok, Sem.run_pure]) v2
  | makeFunc fn first cap =>
    obtain ⟨u, _, _, h1, h, _⟩ := bind_inv h
    obtain ⟨v, _, _, h2, h, _⟩ := bind_inv h
    cases fn with
    | func f =>
      obtain ⟨rfl, _⟩ := ret_inv h
      refine opOk_value (v := .func (.func f) (first.map a.eval) (cap.map a.eval)) rfl (post_ret S rfl ⟨_, _, rfl, ?_, ?_⟩)
      · have := evOs_sound A h1; simpa using this
      · have := evOs_sound A h2; simpa using this
    | _ => exact (fail_inv h).elim
  | makeSlice t x y =>
    obtain ⟨u, _, _, h1, h, _⟩ := bind_inv h
    obtain ⟨v, _, _, h2, h, _⟩ := bind_inv h
    obtain ⟨q, μ', w', q1, q2⟩ := makeSliceA_sound S h (evO_sound A h1) (evO_sound A h2)
    exact opOk_value (by simp only [execOp, Sem.run_bind, q1, Result.andThen_ok, Sem.run_pure]) q2
  | slice t x lo hi mx =>
    cases mx with
    | some m => exact (fail_inv (s := s) h).elim
    | none =>
      obtain ⟨u, _, _, h1, h, _⟩ := bind_inv h
      obtain ⟨ul, _, _, h2, h, _⟩ := bind_inv h
      obtain ⟨uh, _, _, h3, h, _⟩ := bind_inv h
      obtain ⟨v, v1, v2⟩ := sliceA_sound S h (evO_sound A h1) (evOpt_sound A h2) (evOpt_sound A h3)
      exact opOk_value (by simp only [execOp, Sem.run_bind, Option.map_none, v1, Result.andThen_ok, Sem.run_pure]) v2
  | fieldAddr t x f =>
    obtain ⟨u, _, _, h1, h, _⟩ := bind_inv h
    obtain ⟨v, v1, v2⟩ := fieldAddrA_sound S h (evO_sound A h1)
    exact opOk_value (by simp only [execOp, Sem.run_bind, v1, Result.andThen_ok, Sem.run_pure]) v2
  | field t x f =>
    obtain ⟨u, _, _, h1, h, _⟩ := bind_inv h
    obtain ⟨v, v1, v2⟩ := fieldA_sound S h (evO_sound A h1)
    exact opOk_value (by simp only [execOp, Sem.run_bind, v1, Result.andThen_ok, Sem.run_pure]) v2
  | indexAddr t x n =>
    obtain ⟨u, _, _, h1, h, _⟩ := bind_inv h
    obtain ⟨i, _, _, h2, h, _⟩ := bind_inv h
    obtain ⟨v, v1, v2⟩ := indexAddrA_sound S h (evO_sound A h1) (evO_sound A h2)
    exact opOk_value (by simp only [execOp, Sem.run_bind, v1, Result.andThen_ok, Sem.run_pure]) v2
  | index t x n =>
    obtain ⟨u, _, _, h1, h, _⟩ := bind_inv h
    obtain ⟨i, _, _, h2, h, _⟩ := bind_inv h
    obtain ⟨v, v1, v2⟩ := indexA_sound S h (evO_sound A h1) (evO_sound A h2)
    exact opOk_value (by simp only [execOp, Sem.run_bind, v1, Result.andThen_ok, Sem.run_pure]) v2
  | extract t i =>
    obtain ⟨u, _, _, h1, h, _⟩ := bind_inv h
    have R := evO_sound A h1
    cases u with
    | tup l =>
      obtain ⟨arr, hx, R⟩ := R
      cases hi : l[i]? with
      | none =>
        have h : (match l[i]? with
          | some u => ret u
          | none => RM.fail) s = some (e, _) := h
        rw [hi] at h
        exact (fail_inv h).elim
      | some v =>
        have h : (match l[i]? with
          | some u => ret u
          | none => RM.fail) s = some (e, _) := h
        rw [hi] at h
        obtain ⟨rfl, _⟩ := ret_inv h
        obtain ⟨cv, c1, c2⟩ := R.get i v hi
        have c1 : arr[i]? = some cv := by simpa using c1
        exact opOk_value (by simp only [execOp, hx, Instr.extract, c1, Sem.run_bind, Sem.run_pure, Result.andThen_ok]) (post_ret S rfl c2)
    | _ => exact (fail_inv h).elim
  | call c => exact callOpA_sound S hc A rfl h
  | _ => exact (fail_inv (s := s) h).elim
end Go.Am
