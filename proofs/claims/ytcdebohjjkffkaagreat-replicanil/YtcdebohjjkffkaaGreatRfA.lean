/- A machine on data: what a function of the model computes, told without a memory of its own. Definitions alone: values, objects, compact code, the evaluator. -/
import GoSem.Step
namespace Go.Rf
set_option linter.unusedVariables false
set_option linter.unusedSimpArgs false

/-! ## A table by number -/

inductive PM (α : Type) where
  | nil
  | node (v : Option α) (l r : PM α)

namespace PM
variable {α : Type}

def get : PM α → Nat → Option α
  | .nil, _ => none
  | .node v l r, n =>
    match Nat.beq n (nat_lit 0) with
    | true => v
    | false =>
      match Nat.beq (Nat.mod n (nat_lit 2)) (nat_lit 1) with
      | true => l.get (Nat.div n (nat_lit 2))
      | false => r.get (Nat.pred (Nat.div n (nat_lit 2)))

def lft : PM α → PM α
  | .nil => .nil
  | .node _ l _ => l
def rgt : PM α → PM α
  | .nil => .nil
  | .node _ _ r => r
def val : PM α → Option α
  | .nil => none
  | .node v _ _ => v

def put : Nat → PM α → Nat → Option α → PM α
  | 0, m, _, _ => m
  | k + 1, m, n, x =>
    match Nat.beq n (nat_lit 0) with
    | true => .node x m.lft m.rgt
    | false =>
      match Nat.beq (Nat.mod n (nat_lit 2)) (nat_lit 1) with
      | true => .node m.val (put k m.lft (Nat.div n (nat_lit 2)) x) m.rgt
      | false => .node m.val m.lft (put k m.rgt (Nat.pred (Nat.div n (nat_lit 2))) x)

def set (m : PM α) (n : Nat) (x : α) : PM α := put (Nat.succ n) m n (some x)

def ofList (l : List α) : PM α := go l 0 .nil
where
  go : List α → Nat → PM α → PM α
    | [], _, m => m
    | x :: r, i, m => go r (i + 1) (m.set i x)
end PM

/-! ## Values -/

/-- Data that nobody writes. -/
inductive Dat where
  | bool (b : Bool)
  | int (k : IntKind) (n : Int)
  | flt (k : FloatKind) (bits : Nat)
  | str (s : List Nat)
  | nilp
  | nilm
  | nilf
  | nili
  | sl (els : List (List Dat)) (cl : Bool)
  deriving Inhabited

inductive Cell0 where
  | d (x : Dat)
  | ptr (id ver off : Nat)
  | ro (cs : List Dat)
  | sl (id ver off len : Nat) (cl : Bool)
  | mp (id : Nat)
  | it (id : Nat)
  deriving Inhabited

/-- A value of plain cells. -/
structure Vl0 where
  agg : Bool
  cs : List Cell0
  deriving Inhabited

inductive Cell where
  | s (c : Cell0)
  | fn (f : Fn) (g : FuncId) (first caps : List Vl0)
  | yld (id : Nat)
  | ifc (t : TypeId) (agg : Bool) (cs : List Cell0)
  deriving Inhabited

inductive Vl where
  | one (c : Cell)
  | agg (cs : List Cell)
  deriving Inhabited

def Vl.cells : Vl → List Cell
  | .one c => [c]
  | .agg cs => cs

inductive AVal where
  | v (x : Vl)
  | tup (l : List Vl)
  | bad
  deriving Inhabited

/-- What a map's keys are. -/
inductive KeyK where
  | int (k : IntKind)
  | str
  | strs (n : Nat)
  deriving DecidableEq

/-! ## Compact code -/

inductive AOpd where
  | t (n : Nat)
  | c (v : Vl)

/-- What a scalar is. -/
inductive SK where
  | int
  | str
  | bool
  deriving DecidableEq

/-- What is compared. -/
inductive CmpK where
  | scalar
  | bool
  | ptr
  | agg (ks : List SK)
  | iface

/-- What has a length. -/
inductive LenK where
  | str
  | sl
  | map

inductive ConvK where
  | int (k : IntKind)
  | same
  | b2s
  | s2b (t : TypeId)

/-- Operations that change nothing. -/
inductive QOp where
  | mov (x : AOpd)
  | pick (c a b : AOpd)
  | load (agg : Bool) (sz : Nat) (x : AOpd)
  | nilck (x : AOpd)
  | bin (op : BinOp) (k : CmpK) (x y : AOpd)
  | un (op : UnOp) (x : AOpd)
  | conv (k : ConvK) (x : AOpd)
  | faddr (off : Nat) (x : AOpd)
  | field (agg : Bool) (off sz : Nat) (x : AOpd)
  | iaddr (sz : Nat) (alen : Option Nat) (x i : AOpd)
  | sidx (x i : AOpd)
  | aidx (agg : Bool) (n sz : Nat) (x i : AOpd)
  | lookup (k : KeyK) (zero : Vl) (ok : Bool) (x i : AOpd)
  | sslice (x : AOpd) (lo hi : Option AOpd)
  | slice (sz : Nat) (x : AOpd) (lo hi mx : Option AOpd)
  | len (k : LenK) (x : AOpd)
  | mnmx (isMax : Bool) (x y : AOpd)
  | build (zero : List Cell) (parts : List (Nat × Nat × AOpd))
  | mkfn (f : Fn) (g : FuncId) (first caps : List AOpd)
  | mkif (t : TypeId) (x : AOpd)
  | tas (t : TypeId) (zero : Vl) (ok : Bool) (x : AOpd)
  | extract (i : Nat) (x : AOpd)
  | fbits (x : AOpd)
  | bitsf (x : AOpd)

/-- Operations that make one object. -/
inductive MOp where
  | alloc (t : TypeId) (sz : Nat) (zero : List Cell)
  | box (t : TypeId) (sz : Nat) (x : AOpd)
  | bslice (t : TypeId) (sz n : Nat) (zero : List Cell) (parts : List (Nat × Nat × AOpd))
  | mkmap (k : KeyK)
  | mkslice (t : TypeId) (sz bytes : Nat) (zero : List Cell) (l c : AOpd)
  | s2b (t : TypeId) (x : AOpd)
  | range (isStr : Bool) (x : AOpd)

/-- Operations with an effect. -/
inductive EOp where
  | store (sz : Nat) (x v : AOpd)
  | append (t : TypeId) (sz bytes : Nat) (x y : AOpd)
  | copy (sz : Nat) (x y : AOpd)
  | mapup (k : KeyK) (m i v : AOpd)
  | del (k : KeyK) (m i : AOpd)
  | next (isStr : Bool) (x : AOpd)
  | entry (x : AOpd)
  | callf (f : FuncId) (args : List AOpd)
  | callv (f : AOpd) (args : List AOpd)
  | panic (x : AOpd)
  | stop

inductive AOp where
  | q (o : QOp)
  | m (o : MOp)
  | e (o : EOp)
  | recov
  | defer (f : AOpd) (args : List AOpd)

structure AOper where
  dst : Option Nat
  op : AOp
  guard : Option (Nat × Bool)
  anc : Nat

/-- An operation of a region whose order is open, with its number there. -/
structure DOp where
  idx : Nat
  op : AOper

inductive ACode where
  | skip
  | region (ops : List AOper)
  | draw (ops : List DOp)
  | seq (a b : ACode)
  | cond (c : AOpd) (a b : ACode)
  | block (id : Nat) (b : ACode)
  | loop (b : ACode)
  | exit (id : Nat)
  | ret
  | rfunc (f : AOpd) (params : List Nat) (assign body : ACode)

inductive ARes where
  | tmp (t : Nat)
  | cell (t : Nat) (agg : Bool) (sz : Nat)

structure AFunc where
  code : ACode
  res : List ARes
  pure : Bool

/-! ## Objects and states -/

/-- A map's entry. -/
structure AEnt where
  key : List Dat
  born : Nat
  val : Vl

inductive AObj where
  | row (t : TypeId) (sz ver : Nat) (cs : List Cell)
  | fro (sz ver : Nat) (els : List (List Dat))
  | map (k : KeyK) (es : List AEnt) (clock : Nat)
  | mit (m : Option Nat) (since : Nat) (seen : List Nat) (stepped : Nat)
  | sit (s : List Nat) (pos : Nat)
  | lp (st : LoopState) (slots : PM AVal) (params : List Nat) (assign body : ACode) (pending : Option (Option Nat))
  | dfb (shut : Bool)

structure St where
  objs : PM AObj
  next : Nat
  floor : Nat

def St.get (S : St) (id : Nat) : Option AObj := S.objs.get id
def St.put (S : St) (id : Nat) (o : AObj) : St := { S with objs := S.objs.set id o }
def St.alloc (S : St) (o : AObj) : St := { S with objs := S.objs.set S.next o, next := S.next + 1 }

inductive Tgt where
  | f (id : FuncId)
  | yld (id : Nat)

structure APan where
  t : TypeId
  agg : Bool
  cs : List Cell0

inductive ADef where
  | call (g : FuncId) (args : List Vl)
  | mark (id : Nat)

structure Fr where
  slots : PM AVal
  defers : List ADef
  rnd : Option Nat

inductive AExit where
  | normal
  | exit (id : Nat)
  | ret
  | panic (p : APan)

/-! ## Reading -/

def rdS (slots : PM AVal) : AOpd → AVal
  | .t n => (slots.get n).getD (.tup [])
  | .c v => .v v

def AVal.one? : AVal → Option Cell
  | .v (.one c) => some c
  | _ => none

def AVal.cell0? : AVal → Option Cell0
  | .v (.one (.s c)) => some c
  | _ => none

def AVal.dat? : AVal → Option Dat
  | .v (.one (.s (.d x))) => some x
  | _ => none

def AVal.vl? : AVal → Option Vl
  | .v x => some x
  | _ => none

def AVal.int? (x : AVal) : Option Int :=
  match x.dat? with
  | some (.int _ n) => some n
  | _ => none

def AVal.bool? (x : AVal) : Option Bool :=
  match x.dat? with
  | some (.bool b) => some b
  | _ => none

def dv (x : Dat) : AVal := .v (.one (.s (.d x)))
def cv (x : Cell0) : AVal := .v (.one (.s x))
def dc (x : Dat) : Cell := .s (.d x)

def takeN {α : Type} : Nat → List α → Option (List α)
  | 0, _ => some []
  | _ + 1, [] => none
  | n + 1, x :: r => match takeN n r with
    | some l => some (x :: l)
    | none => none

/-- Cells as one value. -/
def mkVl (agg : Bool) (cs : List Cell) : Option Vl :=
  match agg, cs with
  | true, cs => some (.agg cs)
  | false, [c] => some (.one c)
  | false, _ => none

def cells0? : List Cell → Option (List Cell0)
  | [] => some []
  | .s c :: r => match cells0? r with
    | some l => some (c :: l)
    | none => none
  | _ :: _ => none

def dats? : List Cell → Option (List Dat)
  | [] => some []
  | .s (.d x) :: r => match dats? r with
    | some l => some (x :: l)
    | none => none
  | _ :: _ => none

def mapO {α β : Type} (f : α → Option β) : List α → Option (List β)
  | [] => some []
  | x :: r => match f x with
    | some y => match mapO f r with
      | some l => some (y :: l)
      | none => none
    | none => none

/-- A row's cells, so many an element. -/
def chunk {α : Type} (sz : Nat) : Nat → List α → Option (List (List α))
  | 0, _ => some []
  | n + 1, l => match takeN sz l with
    | some e => match chunk sz n (l.drop sz) with
      | some r => some (e :: r)
      | none => none
    | none => none

/-- Elements (all of one size) are of this size. -/
def szOk (sz : Nat) : List (List Dat) → Bool
  | [] => true
  | e :: _ => Nat.beq e.length sz

/-- A slice's elements. -/
def elems (S : St) (sz : Nat) : Cell0 → Option (List (List Cell))
  | .d (.sl els _) => match szOk sz els with
    | true => some (els.map (·.map dc))
    | false => none
  | .sl id ver off len _ => match S.get id with
    | some (.row _ sz' ver' cs) => match Nat.beq ver ver' && Nat.beq sz sz' with
      | true => chunk sz len (cs.drop (off * sz))
      | false => none
    | some (.fro sz' ver' els) => match Nat.beq ver ver' && Nat.beq sz sz' with
      | true => match takeN len (els.drop off) with
        | some l => some (l.map (·.map dc))
        | none => none
      | false => none
    | _ => none
  | _ => none

/-! ## Numbers, by the quick way where both are not below 0 -/

def iAdd : Int → Int → Int
  | .ofNat a, .ofNat b => .ofNat (Nat.add a b)
  | a, b => a + b

def iLt : Int → Int → Bool
  | .ofNat a, .ofNat b => Nat.blt a b
  | .negSucc _, .ofNat _ => true
  | .ofNat _, .negSucc _ => false
  | .negSucc a, .negSucc b => Nat.blt b a

def iEq : Int → Int → Bool
  | .ofNat a, .ofNat b => Nat.beq a b
  | .negSucc a, .negSucc b => Nat.beq a b
  | _, _ => false

def iNeg : Int → Bool
  | .ofNat _ => false
  | .negSucc _ => true

def iWrap (k : IntKind) (n : Int) : Int :=
  match k, n with
  | .i64, .ofNat a => match Nat.blt a (nat_lit 9223372036854775808) with
    | true => .ofNat a
    | false => k.wrap n
  | .u64, .ofNat a => .ofNat (Nat.mod a (nat_lit 18446744073709551616))
  | .u8, .ofNat a => .ofNat (Nat.mod a (nat_lit 256))
  | .u32, .ofNat a => .ofNat (Nat.mod a (nat_lit 4294967296))
  | _, _ => k.wrap n

def kNo : IntKind → Nat
  | .i8 => nat_lit 0 | .i16 => nat_lit 1 | .i32 => nat_lit 2 | .i64 => nat_lit 3
  | .u8 => nat_lit 4 | .u16 => nat_lit 5 | .u32 => nat_lit 6 | .u64 => nat_lit 7

def kEq (k l : IntKind) : Bool := Nat.beq (kNo k) (kNo l)

/-- Bit by bit; the quick way at kinds without a sign. -/
def bits (f : Nat → Nat → Nat) (g : (w : Nat) → BitVec w → BitVec w → BitVec w) (k : IntKind) (a b : Int) : Int :=
  match k, a, b with
  | .u64, .ofNat a, .ofNat b => .ofNat (Nat.mod (f (Nat.mod a (nat_lit 18446744073709551616)) (Nat.mod b (nat_lit 18446744073709551616))) (nat_lit 18446744073709551616))
  | .u32, .ofNat a, .ofNat b => .ofNat (Nat.mod (f (Nat.mod a (nat_lit 4294967296)) (Nat.mod b (nat_lit 4294967296))) (nat_lit 4294967296))
  | .u8, .ofNat a, .ofNat b => .ofNat (Nat.mod (f (Nat.mod a (nat_lit 256)) (Nat.mod b (nat_lit 256))) (nat_lit 256))
  | k, a, b => k.wrap (g k.bits (BitVec.ofInt k.bits a) (BitVec.ofInt k.bits b)).toNat

def strEq : List Nat → List Nat → Bool
  | [], [] => true
  | a :: x, b :: y => match Nat.beq a b with
    | true => strEq x y
    | false => false
  | _, _ => false

def scalarEq : Dat → Dat → Option Bool
  | .int k a, .int l b => match kEq k l with
    | true => some (iEq a b)
    | false => none
  | .str a, .str b => some (strEq a b)
  | .bool a, .bool b => some (a == b)
  | _, _ => none

def scalarsEq : List Dat → List Dat → Option Bool
  | [], [] => some true
  | a :: x, b :: y => match scalarEq a b with
    | some true => scalarsEq x y
    | some false => match scalarsEq x y with
      | some _ => some false
      | none => none
    | none => none
  | _, _ => none

def isStr : Dat → Bool
  | .str _ => true
  | _ => false

/-- A value as a key. -/
def keyOf (k : KeyK) (v : Vl) : Option (List Dat) :=
  match k, v with
  | .int q, .one (.s (.d (.int q' n))) => match kEq q q' with
    | true => some [.int q' n]
    | false => none
  | .str, .one (.s (.d (.str s))) => some [.str s]
  | .strs n, .agg cs => match dats? cs with
    | some l => match Nat.beq l.length n && l.all isStr with
      | true => some l
      | false => none
    | none => none
  | _, _ => none

def keyEq (a b : List Dat) : Bool :=
  match scalarsEq a b with
  | some r => r
  | none => false

def findKey (k : List Dat) : List AEnt → Option Vl
  | [] => none
  | e :: r => match keyEq k e.key with
    | true => some e.val
    | false => findKey k r

def setKey (k : List Dat) (v : Vl) : List AEnt → List AEnt
  | [] => []
  | e :: r => match keyEq k e.key with
    | true => ⟨k, e.born, v⟩ :: r
    | false => e :: setKey k v r

def delKey (k : List Dat) : List AEnt → List AEnt
  | [] => []
  | e :: r => match keyEq k e.key with
    | true => r
    | false => e :: delKey k r

def less : List Nat → List Nat → Bool
  | _, [] => false
  | [], _ :: _ => true
  | a :: x, b :: y => Nat.blt a b || (Nat.beq a b && less x y)

/-! ## Operations that change nothing -/

def binI (op : BinOp) (k : IntKind) (a b : Int) : Option Dat :=
  match op with
  | .add => some (.int k (iWrap k (iAdd a b)))
  | .sub => some (.int k (iWrap k (a - b)))
  | .mul => some (.int k (iWrap k (a * b)))
  | .quo => match iEq b 0 with
    | true => none
    | false => some (.int k (iWrap k (a.tdiv b)))
  | .rem => match iEq b 0 with
    | true => none
    | false => some (.int k (a.tmod b))
  | .and => some (.int k (bits Nat.land (fun _ x y => x &&& y) k a b))
  | .or => some (.int k (bits Nat.lor (fun _ x y => x ||| y) k a b))
  | .xor => some (.int k (bits Nat.xor (fun _ x y => x ^^^ y) k a b))
  | .andNot => some (.int k (k.wrap (BitVec.ofInt k.bits a &&& ~~~BitVec.ofInt k.bits b).toNat))
  | .eql => some (.bool (iEq a b))
  | .neq => some (.bool (!iEq a b))
  | .lss => some (.bool (iLt a b))
  | .leq => some (.bool (!iLt b a))
  | .gtr => some (.bool (iLt b a))
  | .geq => some (.bool (!iLt a b))
  | _ => none

def shiftI (op : BinOp) (k : IntKind) (a b : Int) : Option Dat :=
  match iNeg b with
  | true => none
  | false => match op with
    | .shl => some (.int k (iWrap k (a * 2 ^ (min b.toNat k.bits))))
    | .shr => some (.int k (a.fdiv (2 ^ (min b.toNat k.bits))))
    | _ => none

def isShift : BinOp → Bool
  | .shl => true
  | .shr => true
  | _ => false

def binS (op : BinOp) (a b : List Nat) : Option Dat :=
  match op with
  | .add => match Nat.ble (a.length + b.length) (nat_lit 140737488355328) with
    | true => some (.str (a ++ b))
    | false => none
  | .eql => some (.bool (strEq a b))
  | .neq => some (.bool (!strEq a b))
  | .lss => some (.bool (less a b))
  | .leq => some (.bool (less a b || strEq a b))
  | .gtr => some (.bool (!(less a b || strEq a b)))
  | .geq => some (.bool (!less a b))
  | _ => none

def binD (op : BinOp) : Dat → Dat → Option Dat
  | .int k a, .int k' b => match isShift op with
    | true => shiftI op k a b
    | false => match kEq k k' with
      | false => none
      | true => binI op k a b
  | .str a, .str b => binS op a b
  | .flt k a, .flt k' b =>
    match decide (k = k') with
    | false => none
    | true => match op with
      | .eql => some (.bool (k.format.order a b == some .eq))
      | .neq => some (.bool (k.format.order a b != some .eq))
      | .lss => some (.bool (k.format.order a b == some .lt))
      | .gtr => some (.bool (k.format.order a b == some .gt))
      | _ => none
  | _, _ => none

/-- Is it a pointer; is it nil? -/
def isNilP : Cell0 → Option Bool
  | .d .nilp => some true
  | .ptr _ _ _ => some false
  | .ro _ => some false
  | _ => none

def isNilI : Cell → Option Bool
  | .s (.d .nili) => some true
  | .ifc _ _ _ => some false
  | _ => none

def eqOp (op : BinOp) (b : Bool) : Option AVal :=
  match op with
  | .eql => some (dv (.bool b))
  | .neq => some (dv (.bool (!b)))
  | _ => none

def skEq : SK → Dat → Dat → Option Bool
  | .int, .int k a, .int l b => match kEq k l with
    | true => some (iEq a b)
    | false => none
  | .str, .str a, .str b => some (strEq a b)
  | .bool, .bool a, .bool b => some (a == b)
  | _, _, _ => none

def aggEq : List SK → List Dat → List Dat → Option Bool
  | [], [], [] => some true
  | k :: ks, x :: xs, y :: ys => match skEq k x y, aggEq ks xs ys with
    | some a, some b => some (a && b)
    | _, _ => none
  | _, _, _ => none

def evBin (op : BinOp) (k : CmpK) (x y : AVal) : Option AVal :=
  match k with
  | .bool => match x.bool?, y.bool? with
    | some a, some b => eqOp op (a == b)
    | _, _ => none
  | .scalar => match x.dat?, y.dat? with
    | some a, some b => (binD op a b).map dv
    | _, _ => none
  | .ptr => match x.cell0?, y.cell0? with
    | some a, some b => match isNilP a, isNilP b with
      | some true, some b' => eqOp op b'
      | some false, some true => eqOp op false
      | _, _ => none
    | _, _ => none
  | .iface => match x.one?, y.one? with
    | some a, some b => match isNilI a, isNilI b with
      | some a', some true => eqOp op a'
      | _, _ => none
    | _, _ => none
  | .agg ks => match x, y with
    | .v (.agg a), .v (.agg b) => match dats? a, dats? b with
      | some a', some b' => match aggEq ks a' b' with
        | some r => eqOp op r
        | none => none
      | _, _ => none
    | _, _ => none

def evUn (op : UnOp) (x : AVal) : Option AVal :=
  match op, x.dat? with
  | .not, some (.bool b) => some (dv (.bool (!b)))
  | .neg, some (.int k n) => some (dv (.int k (iWrap k (0 - n))))
  | .xor, some (.int k n) => some (dv (.int k (k.wrap (BitVec.ofInt k.bits (if k.signed then -1 else k.max) ^^^ BitVec.ofInt k.bits n).toNat)))
  | _, _ => none

def evLoad (S : St) (agg : Bool) (sz : Nat) (x : AVal) : Option AVal :=
  match x.cell0? with
  | some (.ptr id ver off) => match S.get id with
    | some (.row _ _ ver' cs) => match Nat.beq ver ver' with
      | true => match takeN sz (cs.drop off) with
        | some l => (mkVl agg l).map .v
        | none => none
      | false => none
    | _ => none
  | some (.ro cs) => match takeN sz cs with
    | some l => (mkVl agg (l.map dc)).map .v
    | none => none
  | _ => none

def evIaddr (S : St) (sz : Nat) (alen : Option Nat) (x i : AVal) : Option AVal :=
  match x.cell0?, i.int? with
  | some c, some n =>
    match iNeg n with
    | true => none
    | false => match alen, c with
      | none, .d (.sl els _) => match els[n.toNat]? with
        | some e => match Nat.beq e.length sz with
          | true => some (cv (.ro e))
          | false => none
        | none => none
      | none, .sl id ver off len _ => match Nat.blt n.toNat len with
        | false => none
        | true => match S.get id with
          | some (.row _ sz' ver' _) => match Nat.beq ver ver' && Nat.beq sz sz' with
            | true => some (cv (.ptr id ver ((off + n.toNat) * sz)))
            | false => none
          | some (.fro sz' ver' els) => match Nat.beq ver ver' && Nat.beq sz sz' with
            | true => match els[off + n.toNat]? with
              | some e => match Nat.beq e.length sz with
                | true => some (cv (.ro e))
                | false => none
              | none => none
            | false => none
          | _ => none
      | some m, .ptr id ver off => match Nat.blt n.toNat m with
        | true => some (cv (.ptr id ver (off + n.toNat * sz)))
        | false => none
      | some m, .ro cs => match Nat.blt n.toNat m with
        | true => some (cv (.ro (cs.drop (n.toNat * sz))))
        | false => none
      | _, _ => none
  | _, _ => none

def fill (off : Nat) (vs : List Cell) (cs : List Cell) : List Cell := cs.take off ++ vs ++ cs.drop (off + vs.length)

def fillAll (rd : AOpd → AVal) : List (Nat × Nat × AOpd) → List Cell → Option (List Cell)
  | [], cs => some cs
  | (off, sz, x) :: r, cs => match rd x with
    | .v y => match Nat.beq y.cells.length sz && Nat.ble (off + sz) cs.length with
      | true => fillAll rd r (fill off y.cells cs)
      | false => none
    | _ => none

/-- The bounds of a slice expression. -/
def bound (rd : AOpd → AVal) (most dflt : Nat) : Option AOpd → Option Nat
  | none => some dflt
  | some x => match (rd x).int? with
    | some n => match iNeg n with
      | true => none
      | false => match Nat.ble n.toNat most with
        | true => some n.toNat
        | false => none
    | none => none

/-- A slice's length, whether nothing lies behind it, where it is of this element size. -/
def slLen (S : St) (sz : Nat) : Cell0 → Option (Nat × Bool)
  | .d (.sl els cl) => match szOk sz els with
    | true => some (els.length, cl)
    | false => none
  | .sl id ver _ len cl => match S.get id with
    | some (.row _ sz' ver' _) => match Nat.beq ver ver' && Nat.beq sz sz' with
      | true => some (len, cl)
      | false => none
    | some (.fro sz' ver' _) => match Nat.beq ver ver' && Nat.beq sz sz' with
      | true => some (len, cl)
      | false => none
    | _ => none
  | _ => none

def cutTo (l h : Nat) (cl : Bool) : Cell0 → Option AVal
  | .d (.sl els _) => some (dv (.sl ((els.take h).drop l) cl))
  | .sl id ver off _ _ => some (cv (.sl id ver (off + l) (h - l) cl))
  | _ => none

/-- Does nothing lie behind what is cut? -/
def cutCl (m h n : Nat) (cl : Bool) : Option AOpd → Bool
  | some _ => Nat.beq m h
  | none => cl && Nat.beq h n

def evSlice (S : St) (sz : Nat) (rd : AOpd → AVal) (x : AVal) (lo hi mx : Option AOpd) : Option AVal :=
  match x.cell0? with
  | some c => match slLen S sz c with
    | none => none
    | some (n, cl) => match bound rd n n mx with
      | none => none
      | some m => match bound rd m n hi with
        | none => none
        | some h => match bound rd h 0 lo with
          | none => none
          | some l => cutTo l h (cutCl m h n cl mx) c
  | none => none

def evSslice (rd : AOpd → AVal) (x : AVal) (lo hi : Option AOpd) : Option AVal :=
  match x.dat? with
  | some (.str s) => match bound rd s.length s.length hi with
    | none => none
    | some h => match bound rd h 0 lo with
      | none => none
      | some l => some (dv (.str ((s.take h).drop l)))
  | _ => none

def evLen (S : St) (k : LenK) (x : AVal) : Option AVal :=
  match k, x.cell0? with
  | .str, some (.d (.str s)) => some (dv (.int .i64 s.length))
  | .sl, some (.d (.sl els _)) => some (dv (.int .i64 els.length))
  | .sl, some (.sl _ _ _ len _) => some (dv (.int .i64 len))
  | .map, some (.d .nilm) => some (dv (.int .i64 0))
  | .map, some (.mp id) => match S.get id with
    | some (.map _ es _) => some (dv (.int .i64 es.length))
    | _ => none
  | _, _ => none

/-- A map's entries. -/
def entsOf (S : St) (k : KeyK) : Cell0 → Option (List AEnt)
  | .d .nilm => some []
  | .mp id => match S.get id with
    | some (.map k' es _) => match decide (k = k') with
      | true => some es
      | false => none
    | _ => none
  | _ => none

def evLookup (S : St) (k : KeyK) (zero : Vl) (ok : Bool) (x i : AVal) : Option AVal :=
  match x.cell0?, i with
  | some c, .v iv => match keyOf k iv, entsOf S k c with
    | some key, some es => match findKey key es, ok with
      | some v, true => some (.tup [v, .one (dc (.bool true))])
      | some v, false => some (.v v)
      | none, true => some (.tup [zero, .one (dc (.bool false))])
      | none, false => some (.v zero)
    | _, _ => none
  | _, _ => none

def b2s : List (List Cell) → Option (List Nat)
  | [] => some []
  | [.s (.d (.int .u8 n))] :: r => match b2s r with
    | some l => some (n.toNat % 256 :: l)
    | none => none
  | _ => none

def evConv (S : St) (k : ConvK) (x : AVal) : Option AVal :=
  match k with
  | .int k => match x.dat? with
    | some (.int _ n) => some (dv (.int k (iWrap k n)))
    | _ => none
  | .same => match x.dat? with
    | some (.str s) => some (dv (.str s))
    | _ => none
  | .b2s => match x.cell0? with
    | some c => match elems S 1 c with
      | some l => match b2s l with
        | some s => some (dv (.str s))
        | none => none
      | none => none
    | none => none
  | .s2b _ => none

def tupGet : List Vl → Nat → Option Vl
  | [], _ => none
  | x :: _, 0 => some x
  | _ :: r, n + 1 => tupGet r n

def vl0? : AVal → Option Vl0
  | .v (.one (.s c)) => some ⟨false, [c]⟩
  | .v (.agg cs) => match cells0? cs with
    | some l => some ⟨true, l⟩
    | none => none
  | _ => none

def Vl0.vl (x : Vl0) : Vl :=
  match x.agg, x.cs with
  | false, [c] => .one (.s c)
  | _, cs => .agg (cs.map .s)

def evMov : AVal → Option AVal
  | .bad => some .bad
  | y => some y

def evPick (c a b : AVal) : Option AVal :=
  match c.bool? with
  | some true => some a
  | some false => some b
  | none => none

def evNilck (x : AVal) : Option AVal :=
  match x.cell0? with
  | some (.ptr a b c) => some (cv (.ptr a b c))
  | some (.ro c) => some (cv (.ro c))
  | _ => none

def evFaddr (off : Nat) (x : AVal) : Option AVal :=
  match x.cell0? with
  | some (.ptr id ver o) => some (cv (.ptr id ver (o + off)))
  | some (.ro cs) => some (cv (.ro (cs.drop off)))
  | _ => none

def evField (agg : Bool) (off sz : Nat) (x : AVal) : Option AVal :=
  match x with
  | .v (.agg cs) => match takeN sz (cs.drop off) with
    | some l => (mkVl agg l).map .v
    | none => none
  | _ => none

def evSidx (x i : AVal) : Option AVal :=
  match x.dat?, i.int? with
  | some (.str s), some n => match iNeg n with
    | true => none
    | false => match s[n.toNat]? with
      | some b => some (dv (.int .u8 b))
      | none => none
  | _, _ => none

def evAidx (agg : Bool) (n sz : Nat) (x i : AVal) : Option AVal :=
  match x, i.int? with
  | .v (.agg cs), some j => match !iNeg j && iLt j n with
    | true => match takeN sz (cs.drop (j.toNat * sz)) with
      | some l => (mkVl agg l).map .v
      | none => none
    | false => none
  | _, _ => none

def evMnmx (mx : Bool) (x y : AVal) : Option AVal :=
  match x.dat?, y.dat? with
  | some (.int k a), some (.int k' b) => match kEq k k' with
    | true => some (dv (.int k (match mx with
      | true => bif iLt a b then b else a
      | false => bif iLt b a then b else a)))
    | false => none
  | _, _ => none

def evMkfn (rd : AOpd → AVal) (f : Fn) (g : FuncId) (first caps : List AOpd) : Option AVal :=
  match mapO (fun x => vl0? (rd x)) first, mapO (fun x => vl0? (rd x)) caps with
  | some a, some b => some (.v (.one (.fn f g a b)))
  | _, _ => none

def evMkif (t : TypeId) (x : AVal) : Option AVal :=
  match x with
  | .v (.one c) => match cells0? [c] with
    | some l => some (.v (.one (.ifc t false l)))
    | none => none
  | .v (.agg cs) => match cells0? cs with
    | some l => some (.v (.one (.ifc t true l)))
    | none => none
  | _ => none

def okVal (ok : Bool) (v : Vl) : AVal :=
  match ok with
  | true => .tup [v, .one (dc (.bool true))]
  | false => .v v

def noVal (ok : Bool) (zero : Vl) : Option AVal :=
  match ok with
  | true => some (.tup [zero, .one (dc (.bool false))])
  | false => none

def evTas (t : TypeId) (zero : Vl) (ok : Bool) (x : AVal) : Option AVal :=
  match x.one? with
  | some (.ifc t' agg cs) => match Nat.beq t t' with
    | true => (mkVl agg (cs.map .s)).map (okVal ok)
    | false => noVal ok zero
  | some (.s (.d .nili)) => noVal ok zero
  | _ => none

def evExtract (i : Nat) (x : AVal) : Option AVal :=
  match x with
  | .tup l => (tupGet l i).map .v
  | _ => none

def evFbits (x : AVal) : Option AVal :=
  match x.dat? with
  | some (.flt .f64 b) => some (dv (.int .u64 b))
  | _ => none

def evBitsf (x : AVal) : Option AVal :=
  match x.dat? with
  | some (.int .u64 n) => some (dv (.flt .f64 n.toNat))
  | _ => none

/-- An operation that changes nothing: what it yields. -/
def evQ (S : St) (rd : AOpd → AVal) : QOp → Option AVal
  | .mov x => evMov (rd x)
  | .pick c a b => evPick (rd c) (rd a) (rd b)
  | .load agg sz x => evLoad S agg sz (rd x)
  | .nilck x => evNilck (rd x)
  | .bin op k x y => evBin op k (rd x) (rd y)
  | .un op x => evUn op (rd x)
  | .conv k x => evConv S k (rd x)
  | .faddr off x => evFaddr off (rd x)
  | .field agg off sz x => evField agg off sz (rd x)
  | .iaddr sz alen x i => evIaddr S sz alen (rd x) (rd i)
  | .sidx x i => evSidx (rd x) (rd i)
  | .aidx agg n sz x i => evAidx agg n sz (rd x) (rd i)
  | .lookup k zero ok x i => evLookup S k zero ok (rd x) (rd i)
  | .sslice x lo hi => evSslice rd (rd x) lo hi
  | .slice sz x lo hi mx => evSlice S sz rd (rd x) lo hi mx
  | .len k x => evLen S k (rd x)
  | .mnmx mx x y => evMnmx mx (rd x) (rd y)
  | .build zero parts => (fillAll rd parts zero).map fun l => .v (.agg l)
  | .mkfn f g first caps => evMkfn rd f g first caps
  | .mkif t x => evMkif t (rd x)
  | .tas t zero ok x => evTas t zero ok (rd x)
  | .extract i x => evExtract i (rd x)
  | .fbits x => evFbits (rd x)
  | .bitsf x => evBitsf (rd x)

/-! ## Operations that make one new object -/

/-- What is yielded: the new object's number in it. -/
inductive MV where
  | ptr
  | sl (n : Nat) (cl : Bool)
  | mp
  | it

def MV.val (id : Nat) : MV → AVal
  | .ptr => cv (.ptr id 0 0)
  | .sl n cl => cv (.sl id 0 0 n cl)
  | .mp => cv (.mp id)
  | .it => cv (.it id)

def evBox (t : TypeId) (sz : Nat) (x : AVal) : Option (AObj × MV) :=
  match x with
  | .v y => match Nat.beq y.cells.length sz with
    | true => some (.row t sz 0 y.cells, .ptr)
    | false => none
  | _ => none

def evMkslice (t : TypeId) (sz bytes : Nat) (zero : List Cell) (l c : AVal) : Option (AObj × MV) :=
  match l.int?, c.int? with
  | some a, some b => match decide (0 ≤ a) && decide (a ≤ b) && decide (b * bytes ≤ 70368744177664) && decide (b ≤ 70368744177664) with
    | true => some (.row t sz 0 (List.replicate a.toNat zero).flatten, .sl a.toNat (decide (a = b)))
    | false => none
  | _, _ => none

def evS2b (t : TypeId) (x : AVal) : Option (AObj × MV) :=
  match x.dat? with
  | some (.str s) => some (.row t 1 0 (s.map fun (n : Nat) => dc (.int .u8 (n : Int))), .sl s.length false)
  | _ => none

def evRange (S : St) (isStr : Bool) (x : AVal) : Option (AObj × MV) :=
  match isStr, x.cell0? with
  | true, some (.d (.str s)) => some (.sit s 0, .it)
  | false, some (.d .nilm) => some (.mit none 0 [] 0, .it)
  | false, some (.mp m) => match S.get m with
    | some (.map _ _ clock) => some (.mit (some m) clock [] clock, .it)
    | _ => none
  | _, _ => none

def evM (S : St) (rd : AOpd → AVal) : MOp → Option (AObj × MV)
  | .alloc t sz zero => some (.row t sz 0 zero, .ptr)
  | .box t sz x => evBox t sz (rd x)
  | .bslice t sz n zero parts => (fillAll rd parts zero).map fun l => (.row t sz 0 l, .sl n true)
  | .mkmap k => some (.map k [] 0, .mp)
  | .mkslice t sz bytes zero l c => evMkslice t sz bytes zero (rd l) (rd c)
  | .s2b t x => evS2b t (rd x)
  | .range s x => evRange S s (rd x)

/-! ## Operations with an effect -/

/-- Slices of one's own are shut: nobody writes them any more. -/
def shut1 (S : St) : Cell0 → St × Cell0
  | .sl id ver off len cl =>
    match Nat.ble S.floor id with
    | false => (S, .sl id ver off len cl)
    | true => match S.get id with
      | some (.row _ sz ver' cs) =>
        match Nat.beq ver ver', dats? cs, Nat.beq sz 0 with
        | true, some ds, false => match chunk sz (ds.length / sz) ds with
          | some els => match takeN len (els.drop off) with
            | some l => (S.put id (.fro sz ver els), .d (.sl l false))
            | none => (S, .sl id ver off len cl)
          | none => (S, .sl id ver off len cl)
        | _, _, _ => (S, .sl id ver off len cl)
      | some (.fro _ ver' els) => match Nat.beq ver ver' with
        | true => match takeN len (els.drop off) with
          | some l => (S, .d (.sl l false))
          | none => (S, .sl id ver off len cl)
        | false => (S, .sl id ver off len cl)
      | _ => (S, .sl id ver off len cl)
  | .d (.sl els _) => (S, .d (.sl els false))
  | c => (S, c)

def shutCells : St → List Cell → St × List Cell
  | S, [] => (S, [])
  | S, .s c :: r =>
    match shut1 S c with
    | (S', c') => match shutCells S' r with
      | (S'', r') => (S'', .s c' :: r')
  | S, c :: r => match shutCells S r with
    | (S', r') => (S', c :: r')

def shutEls : St → List (List Cell) → St × List (List Cell)
  | S, [] => (S, [])
  | S, e :: r => match shutCells S e with
    | (S', e') => match shutEls S' r with
      | (S'', r') => (S'', e' :: r')

def shutVl (S : St) : Vl → St × Vl
  | .one c => match shutCells S [c] with
    | (S', [c']) => (S', .one c')
    | _ => (S, .one c)
  | .agg cs => match shutCells S cs with
    | (S', cs') => (S', .agg cs')

def evStore (S : St) (sz : Nat) (p v : AVal) : Option St :=
  match p.cell0?, v with
  | some (.ptr id ver off), .v y => match S.get id with
    | some (.row t sz' ver' cs) =>
      match Nat.beq ver ver' && Nat.beq y.cells.length sz && Nat.ble (off + sz) cs.length && Nat.ble S.floor id with
      | true => some (S.put id (.row t sz' ver (fill off y.cells cs)))
      | false => none
    | _ => none
  | _, _ => none

def s2els (s : List Nat) : List (List Cell) := s.map fun (n : Nat) => [dc (.int .u8 (n : Int))]

/-- A source of elements. -/
def moreOf (S : St) (sz : Nat) (d : Cell0) : Option (List (List Cell)) :=
  match d with
  | .d (.str s) => match Nat.beq sz 1 with
    | true => some (s2els s)
    | false => none
  | d => elems S sz d

/-- The row with more behind it: a new one, or the same one, laid anew or not. -/
def appendTo (S : St) (t : TypeId) (sz n : Nat) (cs : List Cell) : Cell0 → Option (AVal × St)
  | .d (.sl _ true) => some (cv (.sl S.next 0 0 n false), S.alloc (.row t sz 0 cs))
  | .sl _ _ _ _ true => some (cv (.sl S.next 0 0 n false), S.alloc (.row t sz 0 cs))
  | .sl id ver _ _ false => match S.get id with
    | some (.row _ sz' ver' _) => match Nat.beq ver ver' && Nat.beq sz sz' && Nat.ble S.floor id with
      | true => some (cv (.sl id (ver + 1) 0 n false), S.put id (.row t sz (ver + 1) cs))
      | false => none
    | _ => none
  | _ => none

def isSl : Cell0 → Bool
  | .d (.sl _ _) => true
  | .sl _ _ _ _ _ => true
  | _ => false

def appendMore (S : St) (t : TypeId) (sz bytes : Nat) (c : Cell0) (more : List (List Cell)) : Option (AVal × St) :=
  match elems S sz c with
  | none => none
  | some old => match Nat.ble ((old.length + more.length) * bytes) 70368744177664 with
    | false => none
    | true => match shutEls S more with
      | (S1, more') => appendTo S1 t sz (old.length + more.length) (old ++ more').flatten c

def evAppend (S : St) (t : TypeId) (sz bytes : Nat) (x y : AVal) : Option (AVal × St) :=
  match x.cell0?, y.cell0? with
  | some c, some d =>
    match moreOf S sz d with
    | none => none
    | some [] => match isSl c with
      | true => some (x, S)
      | false => none
    | some (e :: more) => appendMore S t sz bytes c (e :: more)
  | _, _ => none

def evCopy (S : St) (sz : Nat) (x y : AVal) : Option (AVal × St) :=
  match x.cell0?, y.cell0? with
  | some (.sl id ver off len _), some d => match elems S sz d with
    | none => none
    | some more =>
      let n := Nat.min more.length len
      match S.get id with
      | some (.row t sz' ver' cs) =>
        match Nat.beq ver ver' && Nat.beq sz sz' && Nat.ble S.floor id && Nat.ble ((off + len) * sz) cs.length with
        | true => some (dv (.int .i64 n), S.put id (.row t sz' ver (fill (off * sz) (more.take n).flatten cs)))
        | false => none
      | _ => none
  | _, _ => none

def evMapup (S : St) (k : KeyK) (m i v : AVal) : Option St :=
  match m.cell0?, i, v with
  | some (.mp id), .v iv, .v vv => match keyOf k iv with
    | none => none
    | some key => match shutVl S vv with
      | (S1, vv') => match S1.get id with
        | some (.map k' es clock) => match decide (k = k') && Nat.ble S1.floor id with
          | true => match findKey key es with
            | some _ => some (S1.put id (.map k (setKey key vv' es) clock))
            | none => some (S1.put id (.map k (es ++ [⟨key, clock, vv'⟩]) (Nat.succ clock)))
          | false => none
        | _ => none
  | _, _, _ => none

def evDel (S : St) (k : KeyK) (m i : AVal) : Option St :=
  match m.cell0?, i with
  | some (.mp id), .v iv => match keyOf k iv with
    | none => none
    | some key => match S.get id with
      | some (.map k' es clock) => match decide (k = k') && Nat.ble S.floor id with
        | true => some (S.put id (.map k (delKey key es) clock))
        | false => none
      | _ => none
  | _, _ => none

def unseen (seen : List Nat) (es : List AEnt) : List AEnt := es.filter fun e => !(seen.any (Nat.beq e.born ·))

/-- What may come next in a walk over a map; none: it is over. -/
def coming (since : Nat) (seen : List Nat) (es : List AEnt) : List (Option AEnt) :=
  let left := unseen seen es
  let old := left.filter fun e => Nat.blt e.born since
  let new := left.filter fun e => Nat.ble since e.born
  (match old with
   | [] => [none]
   | _ => []) ++ (old ++ new).map some

/-- A key as a value of the map's key type. -/
def keyVl : KeyK → List Dat → Option Vl
  | .strs _, l => some (.agg (l.map dc))
  | _, [x] => some (.one (dc x))
  | _, _ => none

/-! ## The evaluator -/

section
variable {R : Type} (bad : String → R) (all : (n : Nat) → (Nat → R) → R)

abbrev CallT (R : Type) := Tgt → List Vl → St → (AVal → St → R) → (APan → St → R) → R

def vls? : List AVal → Option (List Vl)
  | [] => some []
  | .v x :: r => match vls? r with
    | some l => some (x :: l)
    | none => none
  | _ :: _ => none

/-- What a function value calls, and with what ahead of and behind its arguments. -/
def target : Cell → Option (Tgt × List Vl × List Vl)
  | .fn _ g first caps => some (.f g, first.map Vl0.vl, caps.map Vl0.vl)
  | .yld id => some (.yld id, [], [])
  | _ => none

def orBad (o : Option (AVal × St)) (K : AVal → St → R) : R :=
  match o with
  | some (v, S') => K v S'
  | none => bad "effect"

def unitOf (o : Option St) : Option (AVal × St) :=
  match o with
  | some S' => some (.tup [], S')
  | none => none

def evNextS (S : St) (x : AVal) : Option (AVal × St) :=
  match x.cell0? with
  | some (.it id) => match S.get id with
    | some (.sit s pos) => match Nat.blt pos s.length with
      | true => match Nat.ble S.floor id, Utf8.decode ⟨(s.map UInt8.ofNat).toArray⟩ pos with
        | true, (c, w) => some (.tup [.one (dc (.bool true)), .one (dc (.int .i64 pos)), .one (dc (.int .i32 c))], S.put id (.sit s (pos + w)))
        | false, _ => none
      | false => some (.tup [.one (dc (.bool false))], S)
    | _ => none
  | _ => none

/-- One step of a walk over a map: the entry that comes. -/
def stepTo (k : KeyK) (S : St) (id m since clock : Nat) (seen : List Nat) (K : AVal → St → R) : Option AEnt → R
  | none => K (.tup [.one (dc (.bool false))]) S
  | some e => match keyVl k e.key with
    | some kv => K (.tup [.one (dc (.bool true)), kv, e.val]) (S.put id (.mit (some m) since (seen ++ [e.born]) clock))
    | none => bad "next: key"

def evNextM (S : St) (x : AVal) (K : AVal → St → R) : R :=
  match x.cell0? with
  | some (.it id) => match S.get id with
    | some (.mit none _ _ _) => K (.tup [.one (dc (.bool false))]) S
    | some (.mit (some m) since seen stepped) => match S.get m with
      | some (.map k es clock) =>
        match Nat.ble S.floor id && (seen.isEmpty || es.isEmpty || es.any (fun e => Nat.blt e.born stepped)) with
        | true => match coming since seen es with
          | [] => bad "next: none"
          | [e] => stepTo bad k S id m since clock seen K e
          | left => all left.length fun i => match left[i]? with
            | some e => stepTo bad k S id m since clock seen K e
            | none => bad "next: none"
        | false => bad "next: gone"
      | _ => bad "next: map"
    | _ => bad "next: iter"
  | _ => bad "next"

def findBorn (b : Nat) : List AEnt → Option AEnt
  | [] => none
  | e :: r => match Nat.beq e.born b with
    | true => some e
    | false => findBorn b r

def evEntry (S : St) (x : AVal) : Option (AVal × St) :=
  match x.cell0? with
  | some (.it id) => match S.get id with
    | some (.mit (some m) _ seen stepped) => match S.get m, seen.getLast? with
      | some (.map k es clock), some b => match Nat.beq clock stepped, findBorn b es with
        | true, some e => match keyVl k e.key with
          | some kv => some (.tup [kv, e.val], S)
          | none => none
        | _, _ => none
      | _, _ => none
    | _ => none
  | _ => none

def evCallf (call : CallT R) (vs : Option (List Vl)) (f : FuncId) (S : St) (K : AVal → St → R) (PN : APan → St → R) : R :=
  match vs with
  | some vs => call (.f f) vs S K PN
  | none => bad "call: args"

def evCallv (call : CallT R) (vs : Option (List Vl)) (f : AVal) (S : St) (K : AVal → St → R) (PN : APan → St → R) : R :=
  match f.one?, vs with
  | some c, some vs => match target c with
    | some (tg, a, b) => call tg (a ++ vs ++ b) S K PN
    | none => bad "callv: target"
  | _, _ => bad "callv"

def evPanic (x : AVal) (S : St) (PN : APan → St → R) : R :=
  match x.one? with
  | some (.ifc t agg cs) => PN ⟨t, agg, cs⟩ S
  | _ => bad "panic"

def evE (call : CallT R) (rd : AOpd → AVal) (S : St) (K : AVal → St → R) (PN : APan → St → R) : EOp → R
  | .store sz x v => orBad bad (unitOf (evStore S sz (rd x) (rd v))) K
  | .append t sz bytes x y => orBad bad (evAppend S t sz bytes (rd x) (rd y)) K
  | .copy sz x y => orBad bad (evCopy S sz (rd x) (rd y)) K
  | .mapup k m i v => orBad bad (unitOf (evMapup S k (rd m) (rd i) (rd v))) K
  | .del k m i => orBad bad (unitOf (evDel S k (rd m) (rd i))) K
  | .next true x => orBad bad (evNextS S (rd x)) K
  | .next false x => evNextM bad all S (rd x) K
  | .entry x => orBad bad (evEntry S (rd x)) K
  | .callf f args => evCallf bad call (vls? (args.map rd)) f S K PN
  | .callv f args => evCallv bad call (vls? (args.map rd)) (rd f) S K PN
  | .panic x => evPanic bad (rd x) S PN
  | .stop => bad "an operation that is not taken"

def setDst (slots : PM AVal) : Option Nat → AVal → PM AVal
  | some d, v => slots.set d v
  | none, _ => slots

/-- Is an operation wanted? -/
def wanted (slots : PM AVal) : Option (Nat × Bool) → Option Bool
  | none => some true
  | some (t, want) => match (slots.get t).getD (.tup []) with
    | .tup [] => some false
    | x => match x.bool? with
      | some b => some (b == want)
      | none => none

def Fr.setD (fr : Fr) (d : Option Nat) (v : AVal) : Fr := { fr with slots := setDst fr.slots d v }

/-- A deferred call. -/
def evDefer (rd : AOpd → AVal) (f : AOpd) (args : List AOpd) (fr : Fr) : Option Fr :=
  match fr.rnd, (rd f).one?, vls? (args.map rd) with
  | none, some c, some vs => match target c with
    | some (.f g, a, b) => some { fr with defers := .call g (a ++ vs ++ b) :: fr.defers }
    | _ => none
  | _, _, _ => none

def evOps (call : CallT R) : List AOper → Fr → St → (AExit → Fr → St → R) → R
  | [], fr, S, K => K .normal fr S
  | o :: rest, fr, S, K =>
    match wanted fr.slots o.guard with
    | none => bad "guard"
    | some false => evOps call rest (fr.setD o.dst (.tup [])) S K
    | some true =>
      match o.op with
      | .q op => match evQ S (rdS fr.slots) op with
        | some v => evOps call rest (fr.setD o.dst v) S K
        | none => bad "quiet"
      | .m op => match evM S (rdS fr.slots) op with
        | some (ob, f) => evOps call rest (fr.setD o.dst (f.val S.next)) (S.alloc ob) K
        | none => bad "alloc"
      | .e op => evE bad all call (rdS fr.slots) S (fun v S' => evOps call rest (fr.setD o.dst v) S' K) (fun p S' => K (.panic p) fr S') op
      | .recov => bad "recover"
      | .defer f args => match evDefer (rdS fr.slots) f args fr with
        | some fr' => evOps call rest (fr'.setD o.dst (.tup [])) S K
        | none => bad "defer"

end

/-! ### A region whose order is open -/

/-- Does an operation read objects? -/
def QOp.reads : QOp → Bool
  | .load .. | .lookup .. | .len .. | .iaddr .. | .slice .. | .conv .b2s _ => true
  | _ => false

def MOp.reads : MOp → Bool
  | .range false _ => true
  | _ => false

mutual
def Dat.same : Dat → Dat → Bool
  | .bool a, .bool b => a == b
  | .int k a, .int k' b => decide (k = k') && a == b
  | .flt k a, .flt k' b => decide (k = k') && a == b
  | .str a, .str b => a == b
  | .nilp, .nilp => true
  | .nilm, .nilm => true
  | .nilf, .nilf => true
  | .nili, .nili => true
  | .sl a c, .sl b d => c == d && Dat.sames2 a b
  | _, _ => false
def Dat.sames : List Dat → List Dat → Bool
  | [], [] => true
  | a :: x, b :: y => Dat.same a b && Dat.sames x y
  | _, _ => false
def Dat.sames2 : List (List Dat) → List (List Dat) → Bool
  | [], [] => true
  | a :: x, b :: y => Dat.sames a b && Dat.sames2 x y
  | _, _ => false
end

def Cell0.same : Cell0 → Cell0 → Bool
  | .d x, .d y => Dat.same x y
  | .ptr a b c, .ptr a' b' c' => Nat.beq a a' && Nat.beq b b' && Nat.beq c c'
  | .ro x, .ro y => Dat.sames x y
  | .sl a b c n e, .sl a' b' c' n' e' => Nat.beq a a' && Nat.beq b b' && Nat.beq c c' && Nat.beq n n' && e == e'
  | .mp a, .mp b => Nat.beq a b
  | .it a, .it b => Nat.beq a b
  | _, _ => false

def sameL {α : Type} (f : α → α → Bool) : List α → List α → Bool
  | [], [] => true
  | a :: x, b :: y => f a b && sameL f x y
  | _, _ => false

def Vl0.same (x y : Vl0) : Bool := x.agg == y.agg && sameL Cell0.same x.cs y.cs

def Cell.same : Cell → Cell → Bool
  | .s x, .s y => x.same y
  | .fn f i a b, .fn g j c e => decide (f = g) && Nat.beq i j && sameL Vl0.same a c && sameL Vl0.same b e
  | .yld a, .yld b => Nat.beq a b
  | .ifc t a x, .ifc u b y => Nat.beq t u && a == b && sameL Cell0.same x y
  | _, _ => false

def Vl.same : Vl → Vl → Bool
  | .one a, .one b => a.same b
  | .agg a, .agg b => sameL Cell.same a b
  | _, _ => false

def AVal.same : AVal → AVal → Bool
  | .v a, .v b => a.same b
  | .tup a, .tup b => sameL Vl.same a b
  | .bad, .bad => true
  | _, _ => false

structure Made where
  idx : Nat
  id : Nat
  ob : AObj

/-- With the objects of these operations. -/
def withObjs (S : St) (p : Nat → Bool) : List Made → St
  | [] => S
  | m :: r => match p m.idx with
    | true => withObjs (S.put m.id m.ob) p r
    | false => withObjs S p r

structure Chk where
  idx : Nat
  anc : Nat
  slots : PM AVal
  op : QOp
  v : AVal

structure Dr where
  fr : Fr
  S : St
  made : List Made
  chk : List Chk

def agrees (S : St) (made : List Made) (anc : Nat) (slots : PM AVal) (op : QOp) (v : AVal) : Bool :=
  match evQ (withObjs S anc.testBit made) (rdS slots) op with
  | some v' => v.same v'
  | none => false

/-- What was read is the same behind an effect that needn't come behind it. -/
def chkOk (S : St) (made : List Made) (anc : Nat) : List Chk → Bool
  | [] => true
  | c :: r => (anc.testBit c.idx || agrees S made c.anc c.slots c.op c.v) && chkOk S made anc r

def poison (ops : List DOp) (slots : PM AVal) : PM AVal := ops.foldl (fun s o => setDst s o.op.dst .bad) slots

section
variable {R : Type} (bad : String → R) (all : (n : Nat) → (Nat → R) → R)

def Dr.put (D : Dr) (d : Option Nat) (v : AVal) : Dr := { D with fr := D.fr.setD d v }

def Dr.noted (D : Dr) (i anc : Nat) (op : QOp) (v : AVal) : Dr :=
  match op.reads with
  | false => D
  | true => { D with chk := ⟨i, anc, D.fr.slots, op, v⟩ :: D.chk }

/-- The objects that an operation needn't come behind. -/
def madeLeft (anc : Nat) (made : List Made) : List Made := made.filter fun m => !anc.testBit m.idx

/-- Behind an effect: what was read is checked again. -/
def drawn (D : Dr) (anc : Nat) (dst : Option Nat) (k : Dr → R) (v : AVal) (S' : St) : R :=
  match chkOk S' (madeLeft anc D.made) anc D.chk with
  | true => k ({ D with S := S', made := madeLeft anc D.made }.put dst v)
  | false => bad "draw: check"

def evDraw (call : CallT R) (base : Nat) (allops : List DOp) : List DOp → Dr → (AExit → Fr → St → R) → R
  | [], D, K => K .normal D.fr (withObjs D.S (fun _ => true) D.made)
  | ⟨i, o⟩ :: rest, D, K =>
    match wanted D.fr.slots o.guard with
    | some false => evDraw call base allops rest (D.put o.dst (.tup [])) K
    | some true =>
      match o.op with
      | .q op => match evQ (withObjs D.S o.anc.testBit D.made) (rdS D.fr.slots) op with
        | none => bad "draw: quiet"
        | some v => evDraw call base allops rest ((D.noted i o.anc op v).put o.dst v) K
      | .m op => match op.reads, evM D.S (rdS D.fr.slots) op with
        | false, some (ob, f) => evDraw call base allops rest ({ D with made := ⟨i, base + i, ob⟩ :: D.made }.put o.dst (f.val (base + i))) K
        | _, _ => bad "draw: alloc"
      | .e op => evE bad all call (rdS D.fr.slots) (withObjs D.S o.anc.testBit D.made) (drawn bad D o.anc o.dst fun D' => evDraw call base allops rest D' K)
          (fun p S' => K (.panic p) { D.fr with slots := poison allops D.fr.slots } S') op
      | _ => bad "draw: operation"
    | none => bad "draw: guard"

/-! ### Code -/

def iter (body : Fr → St → (AExit → Fr → St → R) → R) : Nat → Fr → St → (AExit → Fr → St → R) → R
  | 0, _, _, _ => bad "rounds"
  | n + 1, fr, S, K => body fr S fun e fr S => match e with
    | .normal => iter body n fr S K
    | e => K e fr S

/-- A loop's record in another state. -/
def lpSet (S : St) (id : Nat) (st : LoopState) (pd : Option (Option (Option Nat))) : Option St :=
  match S.get id with
  | some (.lp _ sl ps as bo p) => match Nat.ble S.floor id with
    | true => some (S.put id (.lp st sl ps as bo (pd.getD p)))
    | false => none
  | _ => none

/-- Ahead of a range over a function: the block for deferred calls. -/
def rfIn (fr : Fr) (S : St) : Option (Fr × St) :=
  match fr.rnd with
  | none => some ({ fr with defers := .mark S.next :: fr.defers }, S.alloc (.dfb false))
  | some rid => match S.get rid with
    | some (.lp _ _ _ _ _ _) => some (fr, S)
    | _ => none

/-- Behind a range over a function. -/
def rfEnd (id : Nat) (fr : Fr) (S : St) (K : AExit → Fr → St → R) : R :=
  match S.get id, lpSet S id .exhausted none with
  | some (.lp .ready _ _ _ _ pd), some S' => rfOut pd fr S' K
  | some (.lp .done _ _ _ _ pd), some S' => rfOut pd fr S' K
  | _, _ => bad "rfunc: end"
where
  rfOut (pd : Option (Option Nat)) (fr : Fr) (S : St) (K : AExit → Fr → St → R) : R :=
    match pd with
    | none => K .normal fr S
    | some none => K .ret fr S
    | some (some id) => K (.exit id) fr S

def evCode (call : CallT R) (LF : Nat) : ACode → Fr → St → (AExit → Fr → St → R) → R
  | .skip, fr, S, K => K .normal fr S
  | .region ops, fr, S, K => evOps bad all call ops fr S K
  | .draw ops, fr, S, K => evDraw bad all call S.next ops ops ⟨fr, { S with next := S.next + ops.length }, [], []⟩ K
  | .seq a b, fr, S, K => evCode call LF a fr S fun e fr S => match e with
    | .normal => evCode call LF b fr S K
    | e => K e fr S
  | .cond c a b, fr, S, K => match (rdS fr.slots c).bool? with
    | some true => evCode call LF a fr S K
    | some false => evCode call LF b fr S K
    | none => bad "cond"
  | .block id b, fr, S, K => evCode call LF b fr S fun e fr S => match e with
    | .exit id' => match Nat.beq id' id with
      | true => K .normal fr S
      | false => K (.exit id') fr S
    | e => K e fr S
  | .loop b, fr, S, K => iter bad (evCode call LF b) LF fr S K
  | .exit id, fr, S, K => K (.exit id) fr S
  | .ret, fr, S, K => K .ret fr S
  | .rfunc f params assign body, fr, S, K =>
    match rfIn fr S, (rdS fr.slots f).one? with
    | some (fr', S0), some c => match target c with
      | some (.f g, a, b) =>
        call (.f g) (a ++ [.one (.yld S0.next)] ++ b) (S0.alloc (.lp .ready fr.slots params assign body none))
          (fun _ S2 => rfEnd bad S0.next fr' S2 K)
          (fun p S2 => K (.panic p) fr' S2)
      | _ => bad "rfunc: target"
    | _, _ => bad "rfunc"

/-- Is it `recover` alone? -/
def isRec : List AOper → Option (Option Nat)
  | [⟨dst, .recov, none, _⟩] => some dst
  | _ => none

/-- `recover` in a deferred function. -/
def evRec (dst : Option Nat) (fr : Fr) (S : St) (pm : Option (APan × Bool)) (K : AExit → Fr → St → Option (APan × Bool) → R) : R :=
  match pm with
  | some (p, false) => K .normal (fr.setD dst (.v (.one (.ifc p.t p.agg p.cs)))) S (some (p, true))
  | pm => K .normal (fr.setD dst (dv .nili)) S pm

/-- A deferred function's code: what `recover` answers hangs on the panic under way. -/
def evS (call : CallT R) (LF : Nat) : ACode → Fr → St → Option (APan × Bool) → (AExit → Fr → St → Option (APan × Bool) → R) → R
  | .seq a b, fr, S, pm, K => evS call LF a fr S pm fun e fr S pm => match e with
    | .normal => evS call LF b fr S pm K
    | e => K e fr S pm
  | .region ops, fr, S, pm, K => match isRec ops with
    | some dst => evRec dst fr S pm K
    | none => evCode bad all call LF (.region ops) fr S fun e fr S => K e fr S pm
  | c, fr, S, pm, K => evCode bad all call LF c fr S fun e fr S => K e fr S pm

/-! ### Calls -/

def datOf : Option Cell0 → Option Dat
  | some (.d x) => some x
  | _ => none

def cellDat (f : Cell0 → Option Cell0) : Cell → Option Dat
  | .s c => datOf (f c)
  | _ => none

def cellPure (f : Cell0 → Option Cell0) : Cell → Option Cell
  | .s c => (f c).map .s
  | _ => none

/-- A part of a row that stands still. -/
def cutEls (off len : Nat) (els : List (List Dat)) : Option Cell0 :=
  match takeN len (els.drop off) with
  | some l => some (.d (.sl l false))
  | none => none

/-- A row's cells, all data: a part of them. -/
def cutRow (sz off len : Nat) (ds : Option (List Dat)) : Option Cell0 :=
  match ds with
  | some ds => match chunk sz (ds.length / sz) ds with
    | some els => cutEls off len els
    | none => none
  | none => none

/-- A result's cell as data, where nobody else has it: `n0`: what is new. -/
def pureCell (S : St) (n0 : Nat) : Nat → Cell0 → Option Cell0
  | _, .d (.sl els _) => some (.d (.sl els false))
  | _, .d x => some (.d x)
  | _, .ro cs => some (.ro cs)
  | 0, _ => none
  | n + 1, .sl id ver off len cl =>
    match Nat.blt id n0 with
    | true => some (.sl id ver off len cl)
    | false => match S.get id with
      | some (.row _ sz ver' cs) => match Nat.beq ver ver' && Nat.blt 0 sz with
        | true => cutRow sz off len (mapO (cellDat (pureCell S n0 n)) cs)
        | false => none
      | some (.fro _ ver' els) => match Nat.beq ver ver' with
        | true => cutEls off len els
        | false => none
      | _ => none
  | _ + 1, .ptr id ver off => match Nat.blt id n0 with
    | true => some (.ptr id ver off)
    | false => none
  | _ + 1, .mp id => match Nat.blt id n0 with
    | true => some (.mp id)
    | false => none
  | _ + 1, .it _ => none

def pureVl (S : St) (n0 : Nat) : Vl → Option Vl
  | .one c => match cellPure (pureCell S n0 (nat_lit 8)) c with
    | some c' => some (.one c')
    | none => none
  | .agg cs => match mapO (cellPure (pureCell S n0 (nat_lit 8))) cs with
    | some l => some (.agg l)
    | none => none

def resOf (S : St) (slots : PM AVal) : List ARes → Option (List Vl)
  | [] => some []
  | .tmp t :: r => match (slots.get t).getD (.tup []), resOf S slots r with
    | .v x, some l => some (x :: l)
    | _, _ => none
  | .cell t agg sz :: r => match evLoad S agg sz ((slots.get t).getD (.tup [])), resOf S slots r with
    | some (.v x), some l => some (x :: l)
    | _, _ => none

def tupOf : List Vl → AVal
  | [x] => .v x
  | l => .tup l

/-- A panic that has been recovered is over. -/
def settled : Option (APan × Bool) → Option (APan × Bool)
  | some (_, true) => none
  | pm => pm

/-- The deferred calls of a function that leaves: the last one first. -/
def evLeave (dcall : FuncId → List Vl → St → Option (APan × Bool) → (Option (APan × Bool) → St → R) → R)
    (fin : Option APan → St → R) : List ADef → Option (APan × Bool) → St → R
  | [], none, S => fin none S
  | [], some (p, false), S => fin (some p) S
  | [], some (_, true), _ => bad "leave"
  | .mark id :: r, pm, S => match S.get id with
    | some (.dfb false) => match Nat.ble S.floor id with
      | true => evLeave dcall fin r pm (S.put id (.dfb true))
      | false => bad "leave: mark"
    | _ => bad "leave: mark"
  | .call g args :: r, pm, S => dcall g args S pm fun pm' S' => evLeave dcall fin r (settled pm') S'

/-- A round's end. -/
def rndEnd (id : Nat) (e : AExit) (S : St) (K : AVal → St → R) : R :=
  match e with
  | .normal => fin .ready none true
  | .ret => fin .done (some none) false
  | .exit j => fin .done (some (some j)) false
  | .panic _ => bad "round: panic"
where
  fin (st : LoopState) (pd : Option (Option Nat)) (b : Bool) : R :=
    match lpSet S id st (some pd) with
    | some S' => K (dv (.bool b)) S'
    | none => bad "round: end"

def pureVls (S : St) (n0 : Nat) : List Vl → Option (List Vl) := mapO (pureVl S n0)

def enterFr (args : List Vl) (rnd : Option Nat) : Fr := ⟨PM.ofList (args.map .v), [], rnd⟩

/-- A deferred function's end. -/
def dEnd (res : List ARes) (k : Option (APan × Bool) → St → R) (e : AExit) (fr : Fr) (T : St) (pm : Option (APan × Bool)) : R :=
  match e, fr.defers, res with
  | .normal, [], [] => k pm T
  | .ret, [], [] => k pm T
  | _, _, _ => bad "deferred"

def evD (A : FuncId → Option AFunc) (call : CallT R) (LF : Nat) (g : FuncId) (args : List Vl) (T : St) (pm : Option (APan × Bool)) (k : Option (APan × Bool) → St → R) : R :=
  match A g with
  | none => bad "deferred: no such function"
  | some df => evS bad all call LF df.code (enterFr args none) T pm (dEnd bad df.res k)

/-- What a function hands back. -/
def evFin (af : AFunc) (slots : PM AVal) (S : St) (K : AVal → St → R) (PN : APan → St → R) (p : Option APan) (S' : St) : R :=
  match p with
  | some p => match af.pure with
    | true => bad "pure: panic"
    | false => PN p S'
  | none => match resOf S' slots af.res with
    | none => bad "results"
    | some vs => match af.pure with
      | false => K (tupOf vs) S'
      | true => match pureVls S' S.next vs with
        | some vs' => K (tupOf vs') S
        | none => bad "pure: result"

/-- A function's body is left. -/
def evOut (A : FuncId → Option AFunc) (call : CallT R) (LF : Nat) (af : AFunc) (S : St) (K : AVal → St → R) (PN : APan → St → R) (e : AExit) (fr : Fr) (S' : St) : R :=
  match e with
  | .normal => evLeave bad (evD bad all A call LF) (evFin bad af fr.slots S K PN) fr.defers none S'
  | .ret => evLeave bad (evD bad all A call LF) (evFin bad af fr.slots S K PN) fr.defers none S'
  | .panic p => evLeave bad (evD bad all A call LF) (evFin bad af fr.slots S K PN) fr.defers (some (p, false)) S'
  | .exit _ => bad "exit"

/-- The state that a function begins with. -/
def inSt (pure : Bool) (S : St) : St :=
  match pure with
  | true => { S with floor := S.next }
  | false => S

def rndSlots (slots : PM AVal) (params : List Nat) (args : List Vl) : PM AVal := (params.zip args).foldl (fun s x => s.set x.1 (.v x.2)) slots

/-- A round's body is left. -/
def evRndOut (id : Nat) (K : AVal → St → R) (e : AExit) (fr : Fr) (S : St) : R :=
  match fr.defers with
  | [] => rndEnd bad id e S K
  | _ => bad "round: defers"

/-- The assignments ahead of a round's body are done. -/
def evRndIn (call : CallT R) (LF : Nat) (id : Nat) (body : ACode) (K : AVal → St → R) (e : AExit) (fr : Fr) (S : St) : R :=
  match e, fr.defers, S.get id, lpSet S id .busy none with
  | .normal, [], some (.lp .ready _ _ _ _ _), some S' => evCode bad all call LF body fr S' (evRndOut bad id K)
  | _, _, _, _ => bad "round: assign"

/-- A call, where calls in it are known. -/
def evStep (A : FuncId → Option AFunc) (LF : Nat) (call : CallT R) : CallT R
  | .f g, args, S, K, PN =>
    match A g with
    | none => bad "no such function"
    | some af => evCode bad all call LF af.code (enterFr args none) (inSt af.pure S) (evOut bad all A call LF af S K PN)
  | .yld id, args, S, K, _ =>
    match S.get id with
    | some (.lp .ready slots params assign body _) =>
      match Nat.beq params.length args.length with
      | false => bad "yield"
      | true => evCode bad all call LF assign ⟨rndSlots slots params args, [], some id⟩ S (evRndIn bad all call LF id body K)
    | _ => bad "yield: no loop"

def evCall (A : FuncId → Option AFunc) (LF : Nat) : Nat → CallT R
  | 0, _, _, _, _, _ => bad "depth"
  | n + 1, tg, args, S, K, PN => evStep bad all A LF (evCall A LF n) tg args S K PN

end
end Go.Rf
