/- Compact code out of the model's code: a function, no proof. What it cannot take it refuses. -/
import Derived.Test.YtcdebohjjkffkaaGreatRfA
namespace Go.Rf
set_option linter.unusedVariables false
set_option linter.unusedSimpArgs false

def bytesOf (s : ByteArray) : List Nat := s.data.toList.map UInt8.toNat

/-- A constant's cell. -/
def cellOf : Value → Option Cell
  | .bool b => some (dc (.bool b))
  | .int k n => some (dc (.int k n))
  | .float k b => some (dc (.flt k b))
  | .string s => some (dc (.str (bytesOf s)))
  | .pointer none => some (dc .nilp)
  | .slice none 0 0 => some (dc (.sl [] true))
  | .map none => some (dc .nilm)
  | .nilFunc => some (dc .nilf)
  | .nilIface => some (dc .nili)
  | _ => none

def vlOf : Value → Option Vl
  | .agg cs => (mapO cellOf cs.toList).map .agg
  | v => (cellOf v).map .one

def opd : Operand → Option AOpd
  | .tmp t => some (.t t)
  | .const v => (vlOf v).map .c
  | .func f => some (.c (.one (.fn (.func f) f [] [])))
  | .global _ => none

def opdO : Option Operand → Option (Option AOpd)
  | none => some none
  | some x => (opd x).map some

section
variable (P : Program)

def isAggT (t : TypeId) : Option Bool :=
  match P.underlying t with
  | some (.struct _) => some true
  | some (.array _ _) => some true
  | some _ => some false
  | none => none

def szOf (t : TypeId) : Option Nat := (P.info? t).map (·.size)

def zeroOf (t : TypeId) : Option Vl :=
  match P.info? t with
  | some i => match i.zero with
    | some z => vlOf z
    | none => none
  | none => none

/-- Fields one behind the other, from a place on: their scalars. -/
def fieldsSks (sks : TypeId → Option (List SK)) : Nat → List Field → Option (List SK)
  | _, [] => some []
  | off, f :: fs =>
    if f.name = "_" then none else
    match sks f.type, szOf P f.type with
    | some ks, some n => if f.offset = off ∧ ks.length = n then (fieldsSks sks (off + n) fs).map (ks ++ ·) else none
    | _, _ => none

/-- The scalars of a type, all told: by so many levels. -/
def sksOf : Nat → TypeId → Option (List SK)
  | 0, _ => none
  | n + 1, t =>
    match P.underlying t with
    | some (.int _) => some [.int]
    | some .string => some [.str]
    | some .bool => some [.bool]
    | some (.struct fs) => if P.stoodInHeld t then none else fieldsSks P (sksOf n) 0 fs.toList
    | some (.array k e) => match sksOf n e, szOf P e with
      | some ks, some sz => if ks.length = sz then some (List.replicate k ks).flatten else none
      | _, _ => none
    | _ => none

def cmpK (t : TypeId) : Option CmpK :=
  match P.underlying t with
  | some (.int _) | some .string | some (.float _) => some .scalar
  | some .bool => some .bool
  | some (.pointer _) => some .ptr
  | some (.interface _) => some .iface
  | some (.struct _) | some (.array _ _) => if P.eqGuardType P.depth t then none else (sksOf P 8 t).map .agg
  | _ => none

def keyK (t : TypeId) : Option KeyK :=
  match P.underlying t with
  | some (.int k) => some (.int k)
  | some .string => some .str
  | some (.array n e) => match P.underlying e, szOf P e with
    | some .string, some 1 => some (.strs n)
    | _, _ => none
  | _ => none

def convK (s t : TypeId) : Option ConvK :=
  match P.underlying s, P.underlying t with
  | some (.int _), some (.int k) => some (.int k)
  | some .string, some .string => some .same
  | some (.slice e), some .string => match P.underlying e with
    | some (.int .u8) => some .b2s
    | _ => none
  | some .string, some (.slice e) => match P.underlying e with
    | some (.int .u8) => some (.s2b e)
    | _ => none
  | _, _ => none

def partsOf (place : Nat → Option (Nat × Nat)) (ps : List (Nat × Operand)) : Option (List (Nat × Nat × AOpd)) :=
  mapO (fun (x : Nat × Operand) => match place x.1, opd x.2 with
    | some (off, sz), some y => some (off, sz, y)
    | _, _ => none) ps

def fieldsPlaces (fs : Array Field) : Option (List (Nat × Nat)) :=
  fs.toList.mapM (fun f => (P.info? f.type).map fun i => (f.offset, i.size))

def rows {α : Type} (n : Nat) (l : List α) : List α := (List.replicate n l).flatten

/-- A function value that calls g: a function, or a pointer's method whose receiver stands first. -/
def fnOf (f : Fn) : Option FuncId :=
  match f with
  | .func g => some g
  | .via t path g true => match path.toList, P.underlying t with
    | [], some (.pointer _) => some g
    | _, _ => none
  | _ => none

def isFunc : Fn → Bool
  | .func _ => true
  | _ => false

def compBuiltinQ (b : Builtin) (ts : List TypeId) (args : List Operand) : Option QOp :=
  match b, args with
  | .len, [x] => match ts with
    | [t] => match P.underlying t with
      | some .string => (opd x).map (.len .str)
      | some (.slice _) => (opd x).map (.len .sl)
      | some (.map _ _) => (opd x).map (.len .map)
      | _ => none
    | _ => none
  | .max, [x, y] => do some (.mnmx true (← opd x) (← opd y))
  | .min, [x, y] => do some (.mnmx false (← opd x) (← opd y))
  | _, _ => none

def compQ : Op → Option QOp
  | .move x => (opd x).map .mov
  | .assign x => (opd x).map .mov
  | .pick c a b => do some (.pick (← opd c) (← opd a) (← opd b))
  | .build t ps => do
    let z ← zeroOf P t
    match P.underlying t with
    | some (.struct fs) => match fieldsPlaces P fs with
      | some places => (partsOf (places.toArray[·]?) ps.toList).map (.build z.cells)
      | none => none
    | some (.array _ e) => do
      let s ← szOf P e
      (partsOf (fun i => some (i * s, s)) ps.toList).map (.build z.cells)
    | _ => none
  | .load t x => do
    let s ← szOf P t
    if s = 0 then none else some (.load (← isAggT P t) s (← opd x))
  | .nilCheck x => (opd x).map .nilck
  | .binOp op t x y _ => do
    let k ← cmpK P t
    match op, k with
    | .eql, .iface | .neq, .iface => match y with
      | .const .nilIface => do some (.bin op .iface (← opd x) (← opd y))
      | _ => none
    | _, .iface => none
    | _, k => do some (.bin op k (← opd x) (← opd y))
  | .unOp op _ x => (opd x).map (.un op)
  | .convert s t x => match convK P s t with
    | some (.s2b _) => none
    | some k => (opd x).map (.conv k)
    | none => none
  | .makeInterface t x =>
    match P.underlying t with
    | some (.interface _) => none
    | some _ => (opd x).map (.mkif t)
    | none => none
  | .makeFunc f a b => do
    let g ← fnOf P f
    let x ← mapO opd a.toList
    let y ← mapO opd b.toList
    if isFunc f || (!x.isEmpty && y.isEmpty) then some (.mkfn f g x y) else none
  | .slice t x lo hi mx => match P.underlying t with
    | some .string => match mx with
      | none => do some (.sslice (← opd x) (← opdO lo) (← opdO hi))
      | some _ => none
    | some (.slice e) => do
      let s ← szOf P e
      if s = 0 || (mx.isSome && hi.isNone) then none else
      some (.slice s (← opd x) (← opdO lo) (← opdO hi) (← opdO mx))
    | _ => none
  | .fieldAddr t x f => match P.underlying t with
    | some (.struct fs) => match fs[f]? with
      | some fd => do
        let s ← szOf P fd.type
        if s = 0 then none else some (.faddr fd.offset (← opd x))
      | none => none
    | _ => none
  | .field t x f => match P.underlying t with
    | some (.struct fs) => match fs[f]? with
      | some fd => do
        let s ← szOf P fd.type
        if s = 0 then none else some (.field (← isAggT P fd.type) fd.offset s (← opd x))
      | none => none
    | _ => none
  | .indexAddr t x i => match P.underlying t with
    | some (.slice e) => do
      let s ← szOf P e
      if s = 0 then none else some (.iaddr s none (← opd x) (← opd i))
    | some (.array n e) => do
      let s ← szOf P e
      if s = 0 then none else some (.iaddr s (some n) (← opd x) (← opd i))
    | _ => none
  | .index t x i => match P.underlying t with
    | some .string => do some (.sidx (← opd x) (← opd i))
    | some (.array n e) => do
      let s ← szOf P e
      if s = 0 then none else some (.aidx (← isAggT P e) n s (← opd x) (← opd i))
    | _ => none
  | .lookup t x i ok => match P.underlying t with
    | some (.map k e) => do some (.lookup (← keyK P k) (← zeroOf P e) ok (← opd x) (← opd i))
    | _ => none
  | .typeAssert x _ t ok => match P.underlying t with
    | some (.interface _) => none
    | some _ => do some (.tas t (← zeroOf P t) ok (← opd x))
    | none => none
  | .extract x i => (opd x).map (.extract i)
  | .call c => match c.callee with
    | .value (.func f) => match P.funcs[f]?, c.args.toList with
      | some fn, [x] =>
        if fn.body.isSome then none else
        if fn.name = "math.Float64bits" ∧ fn.origin = "" then (opd x).map .fbits else
        if fn.name = "math.Float64frombits" ∧ fn.origin = "" then (opd x).map .bitsf else none
      | _, _ => none
    | .builtin b => compBuiltinQ P b c.argTypes.toList c.args.toList
    | _ => none
  | _ => none

def compM : Op → Option MOp
  | .alloc t => do
    let z ← zeroOf P t
    if z.cells.length = 0 then none else some (.alloc t z.cells.length z.cells)
  | .box t x => do
    let s ← szOf P t
    if s = 0 then none else some (.box t s (← opd x))
  | .buildSlice t n ps =>
    match P.underlying t with
    | some (.slice e) => do
      let s ← szOf P e
      let z ← zeroOf P e
      if s = 0 || z.cells.length ≠ s || n * s > 16777216 then none else
      some (.bslice e s n (rows n z.cells) (← partsOf (fun i => some (i * s, s)) ps.toList))
    | _ => none
  | .convert s t x => match convK P s t with
    | some (.s2b e) => (opd x).map (.s2b e)
    | _ => none
  | .makeMap t none => match P.underlying t with
    | some (.map k _) => (keyK P k).map .mkmap
    | _ => none
  | .makeSlice t l c => match P.underlying t with
    | some (.slice e) => do
      let i ← P.info? e
      let z ← zeroOf P e
      if i.size = 0 || z.cells.length ≠ i.size then none else
      some (.mkslice e i.size i.bytes z.cells (← opd l) (← opd c))
    | _ => none
  | .range t x => match P.underlying t with
    | some .string => (opd x).map (.range true)
    | some (.map _ _) => (opd x).map (.range false)
    | _ => none
  | _ => none

def compBuiltinE (b : Builtin) (ts : List TypeId) (args : List Operand) : Option EOp :=
  match b, ts, args with
  | .append, [t, u], [x, y] => match P.underlying t with
    | some (.slice e) => do
      let i ← P.info? e
      let z ← i.zero
      match P.underlying u with
      | some (.slice _) | some .string => if i.size = 0 || i.bytes = 0 || z.cells.size ≠ i.size then none else some (.append e i.size i.bytes (← opd x) (← opd y))
      | _ => none
    | _ => none
  | .copy, [t, u], [x, y] => match P.underlying t with
    | some (.slice e) => do
      let s ← szOf P e
      if s = 0 then none else
      match P.underlying u with
      | some (.slice _) => some (.copy s (← opd x) (← opd y))
      | _ => none
    | _ => none
  | .delete, t :: _, [x, y] => match P.underlying t with
    | some (.map k _) => do some (.del (← keyK P k) (← opd x) (← opd y))
    | _ => none
  | _, _, _ => none

def compE : Op → Option EOp
  | .store t x v => do
    let s ← szOf P t
    if s = 0 then none else some (.store s (← opd x) (← opd v))
  | .mapUpdate t m k v | .insert t m k v => match P.underlying t with
    | some (.map kt _) => do some (.mapup (← keyK P kt) (← opd m) (← opd k) (← opd v))
    | _ => none
  | .next x s => (opd x).map (.next s)
  | .entry x => (opd x).map .entry
  | .call c => match c.callee with
    | .value (.func f) => match P.funcs[f]? with
      | some fn => match fn.body with
        | some _ => if fn.name == "runtime.NumGoroutine" then none else (mapO opd c.args.toList).map (.callf f)
        | none => none
      | none => none
    | .value (.tmp t) => (mapO opd c.args.toList).map (.callv (.t t))
    | .builtin b => compBuiltinE P b c.argTypes.toList c.args.toList
    | _ => none
  | .panic x => (opd x).map .panic
  | _ => none

def compOp (o : Oper) : Option AOp :=
  match compQ P o.op with
  | some a => some (.q a)
  | none => match compM P o.op with
    | some a => some (.m a)
    | none => match compE P o.op with
      | some a => some (.e a)
      | none => match o.op with
        | .call c => match c.callee with
          | .builtin .recover => some .recov
          | _ => some (.e .stop)
        | .defer c => match c.callee with
          | .value (.tmp t) => match mapO opd c.args.toList with
            | some l => some (.defer (.t t) l)
            | none => some (.e .stop)
          | _ => some (.e .stop)
        | _ => some (.e .stop)

/-- Edges lead to what stands ahead. -/
def edgesOk (ops : Array Oper) : Bool :=
  ops.toList.zipIdx.all fun (o, i) => o.after.all fun e => !Region.binds .any e || e.on < i

def dstOk (N : Nat) (o : Oper) : Bool :=
  match o.dst with
  | some d => Nat.blt d N
  | none => true

def compGuard (ops : Array Oper) : Option (Nat × Bool) → Option (Option (Nat × Bool))
  | none => some none
  | some (j, b) => match (ops[j]?).bind (·.dst) with
    | some t => some (some (t, b))
    | none => none

def compOper (N : Nat) (ops : Array Oper) (anc : Array Nat) (i : Nat) (o : Oper) : Option AOper :=
  match dstOk N o, compOp P o, compGuard ops o.guard with
  | true, some a, some g => some ⟨o.dst, a, g, anc.getD i 0⟩
  | _, _, _ => none

def compOpers (N : Nat) (ops : Array Oper) (anc : Array Nat) : Nat → List Oper → Option (List AOper)
  | _, [] => some []
  | i, o :: r => do
    let a ← compOper P N ops anc i o
    let l ← compOpers N ops anc (i + 1) r
    some (a :: l)

/-! ### Regions whose order is open -/

def optT : Option AOpd → List AOpd
  | some x => [x]
  | none => []

def QOp.opds : QOp → List AOpd
  | .mov x | .load _ _ x | .nilck x | .un _ x | .conv _ x | .faddr _ x | .field _ _ _ x | .len _ x | .mkif _ x | .tas _ _ _ x | .extract _ x | .fbits x | .bitsf x => [x]
  | .pick c a b => [c, a, b]
  | .bin _ _ x y | .iaddr _ _ x y | .sidx x y | .aidx _ _ _ x y | .lookup _ _ _ x y | .mnmx _ x y => [x, y]
  | .sslice x lo hi => x :: (optT lo ++ optT hi)
  | .slice _ x lo hi mx => x :: (optT lo ++ optT hi ++ optT mx)
  | .build _ ps => ps.map fun p => p.2.2
  | .mkfn _ _ a b => a ++ b

def MOp.opds : MOp → List AOpd
  | .alloc .. | .mkmap _ => []
  | .box _ _ x | .s2b _ x | .range _ x => [x]
  | .bslice _ _ _ _ ps => ps.map fun p => p.2.2
  | .mkslice _ _ _ _ l c => [l, c]

def EOp.opds : EOp → List AOpd
  | .store _ x y | .append _ _ _ x y | .copy _ x y | .del _ x y => [x, y]
  | .mapup _ x y z => [x, y, z]
  | .next _ x | .entry x | .panic x => [x]
  | .callf _ as => as
  | .callv f as => f :: as
  | .stop => []

def AOp.opds : AOp → List AOpd
  | .q o => o.opds
  | .m o => o.opds
  | .e o => o.opds
  | .recov => []
  | .defer f as => f :: as

def tmpsOf (l : List AOpd) : List Nat := l.filterMap fun | .t n => some n | .c _ => none

/-- The temporaries that an operation names. -/
def AOper.named (o : AOper) : List Nat :=
  o.dst.toList ++ (match o.guard with | some (t, _) => [t] | none => []) ++ tmpsOf o.op.opds

def AOper.isEff (o : AOper) : Bool :=
  match o.op with
  | .e _ => true
  | _ => false

/-- Whoever names a temporary stands in an order with whoever writes it. -/
def orderOk (L : List DOp) : Bool :=
  L.all fun x => L.all fun y => match y.op.dst with
    | none => true
    | some d => !(x.op.named.contains d) || Nat.beq x.idx y.idx || x.op.anc.testBit y.idx || y.op.anc.testBit x.idx

/-- Who stands ahead, by the edges. -/
def ahead (anc : Array Nat) (o : Oper) : Nat :=
  o.after.toList.foldl (fun s e => if Region.binds .any e then s ||| 2 ^ e.on ||| anc.getD e.on 0 else s) 0

def ancOk (ops : Array Oper) (anc : Array Nat) : Bool :=
  ops.toList.zipIdx.all fun (o, i) => Nat.beq (anc.getD i 0) (ahead anc o)

/-- Each number once, behind those that stand ahead. -/
def permOk : List DOp → Nat → Bool
  | [], _ => true
  | x :: r, seen => !seen.testBit x.idx && Nat.beq (x.op.anc &&& seen) x.op.anc && permOk r (seen ||| 2 ^ x.idx)

/-- What stands behind an effect comes behind it. -/
def effOk : List DOp → Bool
  | [] => true
  | x :: r => (!x.op.isEff || r.all fun y => y.op.anc.testBit x.idx) && effOk r

/-- The operations in the order in which they are taken: level by level, the effect last. -/
def levels (l : List AOper) : List Nat :=
  let zs := l.zipIdx
  let effs := (zs.filter fun x => x.1.isEff).map (·.2)
  let lev (x : AOper) : Nat := (effs.filter fun e => x.anc.testBit e).length
  (List.range (effs.length + 1)).flatMap fun m =>
    ((zs.filter fun x => Nat.beq (lev x.1) m && !x.1.isEff) ++ (zs.filter fun x => Nat.beq (lev x.1) m && x.1.isEff)).map (·.2)

def drawOf (l : List AOper) : Option (List DOp) := mapO (fun i => (l[i]?).map (DOp.mk i)) (levels l)

def drawOk (ops : Array Oper) (L : List DOp) : Bool :=
  edgesOk ops && ancOk ops (Region.before ops) && permOk L 0 && (List.range ops.size).all (fun i => L.any fun x => Nat.beq x.idx i) && Nat.beq L.length ops.size && orderOk L && effOk L

def compDraw (N : Nat) (ops : Array Oper) : Option (List DOp) :=
  match compOpers P N ops (Region.before ops) 0 ops.toList with
  | some l => match drawOf l with
    | some L => match drawOk ops L with
      | true => some L
      | false => none
    | none => none
  | none => none

def compCode (N : Nat) : Code → Option ACode
  | .skip => some .skip
  | .region _ ops false => (compOpers P N ops #[] 0 ops.toList).map .region
  | .region _ ops true => (compDraw P N ops).map .draw
  | .seq a b => do some (.seq (← compCode N a) (← compCode N b))
  | .cond c a b => do some (.cond (← opd c) (← compCode N a) (← compCode N b))
  | .block id b => (compCode N b).map (.block id)
  | .loop b => (compCode N b).map .loop
  | .exit id => some (.exit id)
  | .ret => some .ret
  | .label _ => some .skip
  | .scope b => compCode N b
  | .rangeFunc f ps a b => if ps.all (Nat.blt · N) then do some (.rfunc (← opd f) ps.toList (← compCode N a) (← compCode N b)) else none
  | _ => none

def compRes : ResultVar → Option ARes
  | .tmp t => some (.tmp t)
  | .cell t ty => do
    let s ← szOf P ty
    if s = 0 then none else some (.cell t (← isAggT P ty) s)

def compFunc (pure : Bool) (fn : Func) : Option AFunc := do
  let c ← compCode P fn.ntmps (← fn.body)
  let r ← mapO (compRes P) fn.results.toList
  some ⟨c, r, pure⟩

end
end Go.Rf
