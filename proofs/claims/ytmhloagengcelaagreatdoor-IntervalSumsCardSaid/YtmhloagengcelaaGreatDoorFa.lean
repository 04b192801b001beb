/- Parts of the proof: FpCore, FpStrs, FpCode0, FpCode1, FpLook. -/
import GoSem.Core.Code
import GoSem.Core.View
/- The abstract machine: values without memory, a small list of blocks for boxes and for slices that are still written, and one inductive relation that says what code does. It names no program and no world. -/
namespace Go.Abs

/-- Abstract values: 'sl' is a slice that nobody writes any more, 'ref' one that lies in a block, 'ptr' a pointer into a block, 'eptr' a pointer into what nobody writes. -/
inductive V where
  | bool (b : Bool)
  | int (k : IntKind) (n : Int)
  | str (s : ByteArray)
  | sl (l : List V)
  | nil
  | emp
  | ref (b z off len : Nat)
  | ptr (b i off : Nat)
  | eptr (cs : List V)
  | agg (cs : List V)
  | tup (vs : List V)
  | fn (g : Nat) (cap : List V)
  | nilfn
  deriving Inhabited

def V.undef : V := .tup []

def V.cells : V → List V
  | .agg cs => cs
  | v => [v]

/-- A cell that holds no place in a block. -/
def V.cellPure : V → Bool
  | .bool _ | .int _ _ | .str _ | .sl _ | .nil | .emp | .eptr _ | .fn _ [] | .nilfn => true
  | _ => false

def V.pure (v : V) : Bool := v.cells.all V.cellPure

/-- A cell that names blocks below n alone (a look that may say no too often). -/
def V.lowB (n : Nat) : V → Bool
  | .ref b _ _ _ => decide (b < n)
  | .ptr b _ _ => decide (b < n)
  | v => v.cellPure

def V.isTup : V → Bool
  | .tup _ => true
  | _ => false

/-- No cell is an aggregate. -/
def V.isCell : V → Bool
  | .agg _ | .tup _ => false
  | _ => true

def V.withCells : V → List V → V
  | .agg _, cs => .agg cs
  | _, cs => cs.headD .nil

structure Blk where
  z : Nat
  el : List V
  arr : Bool
  wr : Bool

abbrev Heap := List (Option Blk)
abbrev Env := Nat → V

/-- Our numbers of the functions, and the package's tables that nobody writes. -/
structure Gid where
  fn : FuncId → Option Nat
  tabs : Nat → Option (List V)

instance : CoeFun Gid (fun _ => FuncId → Option Nat) := ⟨Gid.fn⟩

inductive X where
  | t (i : Nat)
  | c (v : V)
  | f (g : Nat)

/-- What a comparison compares. -/
inductive BK where
  | num
  | bool
  | slice
  deriving DecidableEq

inductive AOp where
  | mv (x : X)
  | pick (c a b : X)
  | box (z : Nat) (x : X)
  | new (z : Nat) (v : V)
  | build (zero : List V) (parts : List (Nat × Nat × X))
  | bslice (z len : Nat) (zero : V) (parts : List (Nat × X))
  | load (ag : Bool) (z : Nat) (x : X)
  | store (z : Nat) (a x : X)
  | sload (ag : Bool) (z t : Nat)
  | storeN (z : Nat) (a x : X) (av : List Nat)
  | bin (k : BK) (op : BinOp) (x y : X)
  | un (op : UnOp) (x : X)
  | conv (k : IntKind) (x : X)
  | mkfn (g : Nat) (caps : List X)
  | mkslice (z bytes : Nat) (zero : V) (l c : X)
  | slice (z : Nat) (x : X) (lo hi mx : Option X)
  | faddr (off : Nat) (x : X)
  | field (ag : Bool) (off z : Nat) (x : X)
  | iaddr (z : Nat) (x i : X)
  | aiaddr (n z : Nat) (x i : X)
  | index (ag : Bool) (n z : Nat) (x i : X)
  | sindex (x i : X)
  | extract (i : Nat) (x : X)
  | len (x : X)
  | lenc (n : Nat) (x : X)
  | capn (x : X)
  | append (z bytes : Nat) (x y : X)
  | appendZ (z bytes : Nat) (zero : V) (x n : X)
  | copy (z : Nat) (x y : X)
  | min (x y : X)
  | max (x y : X)
  | max3 (x y z : X)
  | call (x : X) (args : List X)

structure AOper where
  dst : Option Nat
  op : AOp
  guard : Option (Nat × Bool)
  sync : Bool

inductive AC where
  | skip
  | region (draw : Bool) (ops : List AOper)
  | seq (a b : AC)
  | cond (c : X) (thn els : AC)
  | block (id : Nat) (body : AC)
  | loop (body : AC)
  | exit (id : Nat)
  | ret
  | stop

inductive RV where
  | tmp (t : Nat)
  | cell (t : Nat) (ag : Bool) (z : Nat)

structure AFn where
  results : List RV
  body : AC
  own : Bool
  raw : Bool

structure AProg where
  fn : Nat → Option AFn
  prim : Nat → List V → Option V

def getX (E : Env) : X → V
  | .t i => E i
  | .c v => v
  | .f g => .fn g []

def upd (E : Env) (d : Nat) (v : V) : Env := fun i => if i = d then v else E i

def put (E : Env) : Option Nat → V → Env
  | none, _ => E
  | some d, v => upd E d v

/-- Cells put in the place of others. -/
def splice (cs : List V) (off : Nat) (new : List V) : List V := cs.take off ++ new ++ cs.drop (off + new.length)

def wrapC (ag : Bool) (z : Nat) (cs : List V) : Option V :=
  if ag then (if z ≤ cs.length then some (.agg (cs.take z)) else none) else cs[0]?

def bitsI (op : BinOp) (k : IntKind) (x y : Int) : Option Int :=
  let a := BitVec.ofInt k.bits x
  let b := BitVec.ofInt k.bits y
  match op with
  | .and => some (k.wrap (a &&& b).toNat)
  | .or => some (k.wrap (a ||| b).toNat)
  | .xor => some (k.wrap (a ^^^ b).toNat)
  | .andNot => some (k.wrap (a &&& ~~~b).toNat)
  | _ => none

def binI (op : BinOp) (k : IntKind) (a b : Int) : Option V :=
  match op with
  | .add => some (.int k (k.wrap (a + b)))
  | .sub => some (.int k (k.wrap (a - b)))
  | .mul => some (.int k (k.wrap (a * b)))
  | .quo => if b = 0 then none else some (.int k (k.wrap (a.tdiv b)))
  | .rem => if b = 0 then none else some (.int k (a.tmod b))
  | .and => (bitsI .and k a b).map (.int k)
  | .or => (bitsI .or k a b).map (.int k)
  | .xor => (bitsI .xor k a b).map (.int k)
  | .andNot => (bitsI .andNot k a b).map (.int k)
  | .eql => some (.bool (decide (a = b)))
  | .neq => some (.bool (!decide (a = b)))
  | .lss => some (.bool (decide (a < b)))
  | .leq => some (.bool (decide (a ≤ b)))
  | .gtr => some (.bool (decide (b < a)))
  | .geq => some (.bool (decide (b ≤ a)))
  | .shl | .shr => none

def shiftI (op : BinOp) (k : IntKind) (a b : Int) : Option V :=
  if b < 0 then none else
  match op with
  | .shl => some (.int k (k.wrap (a * 2 ^ Nat.min b.toNat k.bits)))
  | .shr => some (.int k (a.fdiv (2 ^ Nat.min b.toNat k.bits)))
  | _ => none

/-- Is a slice nil? None where that is not known. -/
def V.isNil : V → Option Bool
  | .nil => some true
  | .sl (_ :: _) => some false
  | .emp => some false
  | .ref .. => some false
  | _ => none

def binV (bk : BK) (op : BinOp) (x y : V) : Option V :=
  match bk with
  | .num =>
    match x, y with
    | .int k a, .int k' b =>
      match op with
      | .shl => shiftI .shl k a b
      | .shr => shiftI .shr k a b
      | op => if k = k' then binI op k a b else none
    | _, _ => none
  | .bool =>
    match x, y with
    | .bool a, .bool b =>
      match op with
      | .eql => some (.bool (a == b))
      | .neq => some (.bool (!(a == b)))
      | _ => none
    | _, _ => none
  | .slice =>
    match x, y with
    | .nil, y => y.isNil.bind fun b => match op with
      | .eql => some (.bool b)
      | .neq => some (.bool !b)
      | _ => none
    | x, .nil => x.isNil.bind fun b => match op with
      | .eql => some (.bool b)
      | .neq => some (.bool !b)
      | _ => none
    | _, _ => none

def unV (op : UnOp) (x : V) : Option V :=
  match op, x with
  | .not, .bool b => some (.bool !b)
  | .neg, .int k n => some (.int k (k.wrap (0 - n)))
  | .xor, .int k n => (bitsI .xor k (if k.signed then -1 else k.max) n).map (.int k)
  | _, _ => none

/-- A cell made fit to be handed on for good: a block that it names is written no more. -/
def frzC (H : Heap) : V → Option (V × Heap)
  | .nil => some (.sl [], H)
  | .emp => some (.sl [], H)
  | .ref b z off len =>
    match H[b]? with
    | some (some k) =>
      if k.arr = true ∧ k.z = z ∧ off + len ≤ k.el.length then
        some (.sl ((k.el.drop off).take len), if k.wr then H.set b (some { k with wr := false }) else H)
      else none
    | _ => none
  | .agg _ => none
  | .tup _ => none
  | c => some (c, H)

def frzCs (H : Heap) : List V → Option (List V × Heap)
  | [] => some ([], H)
  | c :: cs => (frzC H c).bind fun (c', H1) => (frzCs H1 cs).bind fun (cs', H2) => some (c' :: cs', H2)

def frzV (H : Heap) : V → Option (V × Heap)
  | .agg cs => (frzCs H cs).bind fun (cs', H1) => some (.agg cs', H1)
  | v => frzC H v

def frzVs (H : Heap) : List V → Option (List V × Heap)
  | [] => some ([], H)
  | v :: vs => (frzV H v).bind fun (v', H1) => (frzVs H1 vs).bind fun (vs', H2) => some (v' :: vs', H2)

/-- A value put into a block of elements, or into an elder activation's variable. -/
def pureIn (H : Heap) (v : V) : Option (V × Heap) :=
  (frzV H v).bind fun (v', H1) => if v'.pure = true then some (v', H1) else none

def pureIns (H : Heap) : List V → Option (List V × Heap)
  | [] => some ([], H)
  | v :: vs => (pureIn H v).bind fun (v', H1) => (pureIns H1 vs).bind fun (vs', H2) => some (v' :: vs', H2)

/-- The elements that a slice shows, for reading. -/
def elems (H : Heap) : V → Option (List V)
  | .nil => some []
  | .emp => some []
  | .sl l => some l
  | .ref b z off len =>
    match H[b]? with
    | some (some k) => if k.arr = true ∧ k.z = z ∧ off + len ≤ k.el.length then some ((k.el.drop off).take len) else none
    | _ => none
  | _ => none

def headOk (z : Nat) : List V → Bool
  | [] => true
  | e :: _ => decide (e.cells.length = z)

def fillC (cells : List V) : List (Nat × Nat × V) → Option (List V)
  | [] => some cells
  | (off, size, v) :: rest =>
    if v.cells.length = size ∧ off + size ≤ cells.length ∧ v.isTup = false then fillC (splice cells off v.cells) rest else none

def fillE (z : Nat) (el : List V) : List (Nat × V) → Option (List V)
  | [] => some el
  | (i, v) :: rest => if v.cells.length = z ∧ i < el.length then fillE z (el.set i v) rest else none

def natOf : V → Option Nat
  | .int _ n => if 0 ≤ n then some n.toNat else none
  | _ => none

def optNat (E : Env) (d : Nat) : Option X → Option Nat
  | none => some d
  | some x => natOf (getX E x)

def appendLimit (need bytes : Nat) : Bool := decide (need * bytes ≤ 140737488355328)

/-- Pointers into different blocks. -/
def apart : V → V → Bool
  | .ptr b _ _, .ptr b' _ _ => b != b'
  | .eptr _, _ => true
  | _, _ => false

def stStore (n0 z : Nat) (a x : V) (H : Heap) : Option (V × Heap) :=
  match a with
  | .ptr b i off =>
    match H[b]? with
    | some (some k) =>
      if x.isTup = false then
        (if k.arr = true ∨ b < n0 then pureIn H x else some (x, H)).bind fun (v, H1) =>
          match H1[b]? with
          | some (some k1) =>
            match k1.el[i]? with
            | some e =>
              if k1.wr = true ∧ k1.arr = k.arr ∧ v.cells.length = z ∧ off + z ≤ e.cells.length then
                some (.undef, H1.set b (some { k1 with el := k1.el.set i (e.withCells (splice e.cells off v.cells)) }))
              else none
            | none => none
          | _ => none
      else none
    | _ => none
  | _ => none

def stp (n0 : Nat) (op : AOp) (E : Env) (H : Heap) : Option (V × Heap) :=
  match op with
  | .mv x => some (getX E x, H)
  | .pick c a b =>
    match getX E c with
    | .bool t => some (if t then getX E a else getX E b, H)
    | _ => none
  | .box z x =>
    if (getX E x).cells.length = z ∧ (getX E x).isTup = false then some (.ptr H.length 0 0, H ++ [some ⟨z, [getX E x], false, true⟩]) else none
  | .new z v => if v.cells.length = z ∧ v.pure = true then some (.ptr H.length 0 0, H ++ [some ⟨z, [v], false, true⟩]) else none
  | .build zero parts =>
    if zero.all V.cellPure = true then (fillC zero (parts.map fun p => (p.1, p.2.1, getX E p.2.2))).map fun cs => (.agg cs, H) else none
  | .bslice z len zero parts =>
    if zero.cells.length = z ∧ zero.pure = true then
      (pureIns H (parts.map fun p => getX E p.2)).bind fun (vs, H1) =>
        (fillE z (List.replicate len zero) ((parts.map (·.1)).zip vs)).map fun el => (.ref H1.length z 0 len, H1 ++ [some ⟨z, el, true, true⟩])
    else none
  | .load ag z x =>
    match getX E x with
    | .eptr cs => (wrapC ag z cs).map fun v => (v, H)
    | .ptr b i off =>
      match H[b]? with
      | some (some k) =>
        match k.el[i]? with
        | some e => (wrapC ag z (e.cells.drop off)).map fun v => (v, H)
        | none => none
      | _ => none
    | _ => none
  | .store z a x => stStore n0 z (getX E a) (getX E x) H
  | .sload ag z t =>
    match E t with
    | .eptr cs => (wrapC ag z cs).map fun v => (v, H)
    | .ptr b i off =>
      match H[b]? with
      | some (some k) =>
        match k.el[i]? with
        | some e => (wrapC ag z (e.cells.drop off)).bind fun v => if v.cells.all (V.lowB H.length) = true ∧ v.isTup = false then some (v, H) else none
        | none => none
      | _ => none
    | _ => none
  | .storeN z a x av => if (getX E x).pure = true ∧ (av.all fun t => apart (E t) (getX E a)) = true then stStore n0 z (getX E a) (getX E x) H else none
  | .bin bk op x y => (binV bk op (getX E x) (getX E y)).map fun v => (v, H)
  | .un op x => (unV op (getX E x)).map fun v => (v, H)
  | .conv k x =>
    match getX E x with
    | .int _ n => some (.int k (k.wrap n), H)
    | _ => none
  | .mkfn g caps => if (caps.map (getX E)).all V.isCell = true then some (.fn g (caps.map (getX E)), H) else none
  | .mkslice z bytes zero l c =>
    match natOf (getX E l), natOf (getX E c) with
    | some l, some c =>
      if l ≤ c ∧ c * bytes ≤ 281474976710656 ∧ c ≤ 9223372036854775807 ∧ zero.cells.length = z ∧ zero.pure = true then
        some (.ref H.length z 0 l, H ++ [some ⟨z, List.replicate c zero, true, true⟩])
      else none
    | _, _ => none
  | .slice z x lo hi mx =>
    match getX E x with
    | .nil =>
      match optNat E 0 lo, optNat E 0 hi, optNat E 0 mx with
      | some 0, some 0, some 0 => some (.nil, H)
      | _, _, _ => none
    | .sl l =>
      match optNat E 0 lo, optNat E l.length hi, optNat E l.length mx with
      | some lo, some hi, some mx =>
        if lo ≤ hi ∧ hi ≤ mx ∧ mx ≤ l.length ∧ (lo = 0 ∨ headOk z ((l.take hi).drop lo) = true) then some (.sl ((l.take hi).drop lo), H) else none
      | _, _, _ => none
    | .ref b z' off len =>
      match optNat E 0 lo, optNat E len hi, mx with
      | some lo, some hi, none => if lo ≤ hi ∧ hi ≤ len ∧ z' = z then some (.ref b z' (off + lo) (hi - lo), H) else none
      | _, _, _ => none
    | _ => none
  | .faddr off x =>
    match getX E x with
    | .ptr b i o => some (.ptr b i (o + off), H)
    | .eptr cs => some (.eptr (cs.drop off), H)
    | _ => none
  | .field ag off z x =>
    match getX E x with
    | .agg cs => (wrapC ag z (cs.drop off)).map fun v => (v, H)
    | _ => none
  | .iaddr z x i =>
    match getX E x, natOf (getX E i) with
    | .sl l, some i =>
      match l[i]? with
      | some e => if e.cells.length = z then some (.eptr e.cells, H) else none
      | none => none
    | .ref b z' off len, some i => if i < len ∧ z' = z then some (.ptr b (off + i) 0, H) else none
    | _, _ => none
  | .aiaddr n z x i =>
    match getX E x, natOf (getX E i) with
    | .ptr b j off, some i => if i < n then some (.ptr b j (off + i * z), H) else none
    | .eptr cs, some i => if i < n then some (.eptr (cs.drop (i * z)), H) else none
    | _, _ => none
  | .index ag n z x i =>
    match getX E x, natOf (getX E i) with
    | .agg cs, some i => if i < n then (wrapC ag z (cs.drop (i * z))).map fun v => (v, H) else none
    | _, _ => none
  | .sindex x i =>
    match getX E x, natOf (getX E i) with
    | .str s, some i =>
      match s[i]? with
      | some b => some (.int .u8 b.toNat, H)
      | none => none
    | _, _ => none
  | .extract i x =>
    match getX E x with
    | .tup vs => (vs[i]?).map fun v => (v, H)
    | _ => none
  | .len x =>
    match getX E x with
    | .sl l => some (.int .i64 l.length, H)
    | .nil => some (.int .i64 0, H)
    | .emp => some (.int .i64 0, H)
    | .ref _ _ _ len => some (.int .i64 len, H)
    | _ => none
  | .lenc n _ => some (.int .i64 n, H)
  | .capn x =>
    match getX E x with
    | .nil => some (.int .i64 0, H)
    | _ => none
  | .append z bytes x y =>
    (elems H (getX E y)).bind fun ys =>
      if headOk z ys = true then
        match getX E x with
        | .nil =>
          if ys = [] then some (.nil, H)
          else if appendLimit ys.length bytes = true then some (.ref H.length z 0 ys.length, H ++ [some ⟨z, ys, true, true⟩]) else none
        | .ref b z' off len =>
          match H[b]? with
          | some (some k) =>
            if k.arr = true ∧ k.wr = true ∧ k.z = z ∧ z' = z ∧ off + len ≤ k.el.length ∧ appendLimit (len + ys.length) bytes = true then
              if ys = [] then some (.ref b z' off len, H)
              else some (.ref H.length z 0 (len + ys.length), H.set b none ++ [some ⟨z, (k.el.drop off).take len ++ ys, true, true⟩])
            else none
          | _ => none
        | _ => none
      else none
  | .appendZ z bytes zero x n =>
    match getX E x, natOf (getX E n) with
    | .nil, some m =>
      if 0 < m ∧ m * bytes ≤ 140737488355328 ∧ m ≤ 9223372036854775807 ∧ zero.cells.length = z ∧ zero.pure = true then some (.ref H.length z 0 m, H ++ [some ⟨z, List.replicate m zero, true, true⟩]) else none
    | _, _ => none
  | .copy z x y =>
    match getX E x with
    | .ref b z' off len =>
      (elems H (getX E y)).bind fun ys =>
        match H[b]? with
        | some (some k) =>
          if k.arr = true ∧ k.wr = true ∧ k.z = z ∧ z' = z ∧ headOk z ys = true ∧ off + len ≤ k.el.length then
            some (.int .i64 (Nat.min ys.length len), H.set b (some { k with el := splice k.el off (ys.take len) }))
          else none
        | _ => none
    | _ => none
  | .min x y =>
    match getX E x, getX E y with
    | .int k a, .int k' b => if k = k' then some (.int k (if b < a then b else a), H) else none
    | _, _ => none
  | .max x y =>
    match getX E x, getX E y with
    | .int k a, .int k' b => if k = k' then some (.int k (if a < b then b else a), H) else none
    | _, _ => none
  | .max3 x y z =>
    match getX E x, getX E y, getX E z with
    | .int k a, .int k' b, .int k'' c => if k = k' ∧ k = k'' then some (.int k (if (if a < b then b else a) < c then c else if a < b then b else a), H) else none
    | _, _, _ => none
  | .call _ _ => none

def gd (o : AOper) (E : Env) : Option Bool :=
  match o.guard with
  | none => some true
  | some (t, want) =>
    match E t with
    | .bool b => some (b == want)
    | .tup _ => some false
    | _ => none

def E0 (args : List V) : Env := fun i => args.getD i .undef

def resV1 (E : Env) (H : Heap) : RV → Option V
  | .tmp t => some (E t)
  | .cell t ag z => (stp 0 (.load ag z (.t t)) E H).map (·.1)

def resVs (E : Env) (H : Heap) : List RV → Option (List V)
  | [] => some []
  | r :: rs => (resV1 E H r).bind fun v => (resVs E H rs).bind fun vs => some (v :: vs)

def resV (E : Env) (H : Heap) (rs : List RV) : Option V :=
  (resVs E H rs).map fun vs => match vs with
    | [v] => v
    | vs => .tup vs

/-- A result that keeps its slices to be written on: each lies in a block of its own behind the elder ones. -/
def ownC (n0 : Nat) (H : Heap) (acc : Heap) : V → Option (V × Heap × Heap)
  | .ref b z off len =>
    match H[b]? with
    | some (some k) =>
      if n0 ≤ b ∧ k.arr = true ∧ k.wr = true ∧ k.z = z ∧ off + len ≤ k.el.length then
        some (.ref (n0 + acc.length) z 0 len, H.set b none, acc ++ [some { k with el := (k.el.drop off).take len }])
      else none
    | _ => none
  | c => (frzC H c).bind fun (c', H1) => if c'.cellPure = true then some (c', H1, acc) else none

def ownCs (n0 : Nat) (H acc : Heap) : List V → Option (List V × Heap × Heap)
  | [] => some ([], H, acc)
  | c :: cs => (ownC n0 H acc c).bind fun (c', H1, acc1) => (ownCs n0 H1 acc1 cs).bind fun (cs', H2, acc2) => some (c' :: cs', H2, acc2)

def ownV (n0 : Nat) (H acc : Heap) : V → Option (V × Heap × Heap)
  | .agg cs => (ownCs n0 H acc cs).bind fun (cs', H1, acc1) => some (.agg cs', H1, acc1)
  | v => ownC n0 H acc v

def ownVs (n0 : Nat) (H acc : Heap) : List V → Option (List V × Heap × Heap)
  | [] => some ([], H, acc)
  | v :: vs => (ownV n0 H acc v).bind fun (v', H1, acc1) => (ownVs n0 H1 acc1 vs).bind fun (vs', H2, acc2) => some (v' :: vs', H2, acc2)

def fin (own : Bool) (n0 : Nat) (H : Heap) (v : V) : Option (V × Heap) :=
  if own then
    match v with
    | .tup vs => (ownVs n0 H [] vs).bind fun (vs', H1, acc) => some (.tup vs', H1.take n0 ++ acc)
    | v => (ownV n0 H [] v).bind fun (v', H1, acc) => some (v', H1.take n0 ++ acc)
  else
    match v with
    | .tup vs => (pureIns H vs).bind fun (vs', H1) => some (.tup vs', H1.take n0)
    | v => (pureIn H v).bind fun (v', H1) => some (v', H1.take n0)

inductive AX where
  | normal
  | exit (id : Nat)
  | ret
  deriving DecidableEq

def AX.outOf (id : Nat) : AX → AX
  | .exit id' => if id' = id then .normal else .exit id'
  | x => x

inductive Task where
  | call (g : Nat) (args : List V) (H : Heap)
  | code (n0 : Nat) (c : AC) (E : Env) (H : Heap)
  | ops (n0 : Nat) (draw : Bool) (l : List AOper) (E : Env) (H : Heap)

inductive Res where
  | ret (v : V) (H : Heap)
  | cd (x : AX) (E : Env) (H : Heap)

def prep (S : AProg) (g : Nat) (H : Heap) (args : List V) : Option (List V × Heap) :=
  match S.fn g with
  | some f => if f.raw then some (args, H) else frzVs H args
  | none => frzVs H args

inductive Ev (S : AProg) : Task → Res → Prop
  | skip {n0 E H} : Ev S (.code n0 .skip E H) (.cd .normal E H)
  | seqN {n0 a b E H E1 H1 r} : Ev S (.code n0 a E H) (.cd .normal E1 H1) → Ev S (.code n0 b E1 H1) r → Ev S (.code n0 (.seq a b) E H) r
  | seqX {n0 a b E H x E1 H1} : Ev S (.code n0 a E H) (.cd x E1 H1) → x ≠ .normal → Ev S (.code n0 (.seq a b) E H) (.cd x E1 H1)
  | cond {n0 c a b E H t r} : getX E c = .bool t → Ev S (.code n0 (if t then a else b) E H) r → Ev S (.code n0 (.cond c a b) E H) r
  | block {n0 id c E H x E1 H1} : Ev S (.code n0 c E H) (.cd x E1 H1) → Ev S (.code n0 (.block id c) E H) (.cd (x.outOf id) E1 H1)
  | loopN {n0 c E H E1 H1 r} : Ev S (.code n0 c E H) (.cd .normal E1 H1) → Ev S (.code n0 (.loop c) E1 H1) r → Ev S (.code n0 (.loop c) E H) r
  | loopX {n0 c E H x E1 H1} : Ev S (.code n0 c E H) (.cd x E1 H1) → x ≠ .normal → Ev S (.code n0 (.loop c) E H) (.cd x E1 H1)
  | exit {n0 id E H} : Ev S (.code n0 (.exit id) E H) (.cd (.exit id) E H)
  | ret {n0 E H} : Ev S (.code n0 .ret E H) (.cd .ret E H)
  | region {n0 d l E H E1 H1} : Ev S (.ops n0 d l E H) (.cd .normal E1 H1) → Ev S (.code n0 (.region d l) E H) (.cd .normal E1 H1)
  | opNil {n0 d E H} : Ev S (.ops n0 d [] E H) (.cd .normal E H)
  | opSkip {n0 d o l E H r} : gd o E = some false → Ev S (.ops n0 d l (put E o.dst .undef) H) r → Ev S (.ops n0 d (o :: l) E H) r
  | opDo {n0 d o l E H v H1 r} : gd o E = some true → stp n0 o.op E H = some (v, H1) → (d = true → o.sync = false → H <+: H1) →
      Ev S (.ops n0 d l (put E o.dst v) H1) r → Ev S (.ops n0 d (o :: l) E H) r
  | opCall {n0 d o l E H x xs g caps vs H1 v H2 r} : gd o E = some true → o.op = .call x xs → getX E x = .fn g caps →
      prep S g H (xs.map (getX E) ++ caps) = some (vs, H1) → Ev S (.call g vs H1) (.ret v H2) → (d = true → o.sync = false → H <+: H2) →
      Ev S (.ops n0 d l (put E o.dst v) H2) r → Ev S (.ops n0 d (o :: l) E H) r
  | call {g f args H x E1 H1 v0 v H2} : S.fn g = some f → Ev S (.code H.length f.body (E0 args) H) (.cd x E1 H1) → (x = .normal ∨ x = .ret) →
      resV E1 H1 f.results = some v0 → fin f.own H.length H1 v0 = some (v, H2) → Ev S (.call g args H) (.ret v H2)
  | emp {g pre post H r} : Ev S (.call g (pre ++ .nil :: post) H) r → Ev S (.call g (pre ++ .emp :: post) H) r → Ev S (.call g (pre ++ .sl [] :: post) H) r
  | prim {g args H v} : S.prim g args = some v → Ev S (.call g args H) (.ret v H)

end Go.Abs
/- MADE BY A PROGRAM (wip/tools/dump.sh, mkcode.py): the abstract code of the functions that this seat reaches. -/
namespace Go.Abs

def str_0 : ByteArray := ⟨#[0, 1, 2, 2, 3, 3, 3, 3, 4, 4, 4, 4, 4, 4, 4, 4, 5, 5, 5, 5, 5, 5, 5, 5, 5, 5, 5, 5, 5, 5, 5, 5, 6, 6, 6, 6, 6, 6, 6, 6, 6, 6, 6, 6, 6, 6, 6, 6, 6, 6, 6, 6, 6, 6, 6, 6, 6, 6, 6, 6, 6, 6, 6, 6, 7, 7, 7, 7, 7, 7, 7, 7, 7, 7, 7, 7, 7, 7, 7, 7, 7, 7, 7, 7, 7, 7, 7, 7, 7, 7, 7, 7, 7, 7, 7, 7, 7, 7, 7, 7, 7, 7, 7, 7, 7, 7, 7, 7, 7, 7, 7, 7, 7, 7, 7, 7, 7, 7, 7, 7, 7, 7, 7, 7, 7, 7, 7, 7, 8, 8, 8, 8, 8, 8, 8, 8, 8, 8, 8, 8, 8, 8, 8, 8, 8, 8, 8, 8, 8, 8, 8, 8, 8, 8, 8, 8, 8, 8, 8, 8, 8, 8, 8, 8, 8, 8, 8, 8, 8, 8, 8, 8, 8, 8, 8, 8, 8, 8, 8, 8, 8, 8, 8, 8, 8, 8, 8, 8, 8, 8, 8, 8, 8, 8, 8, 8, 8, 8, 8, 8, 8, 8, 8, 8, 8, 8, 8, 8, 8, 8, 8, 8, 8, 8, 8, 8, 8, 8, 8, 8, 8, 8, 8, 8, 8, 8, 8, 8, 8, 8, 8, 8, 8, 8, 8, 8, 8, 8, 8, 8, 8, 8, 8, 8, 8, 8, 8, 8, 8, 8, 8, 8, 8, 8, 8, 8]⟩

end Go.Abs
/- MADE BY A PROGRAM (wip/tools/dump.sh, mkcode.py): the abstract code of the functions that this seat reaches. -/
namespace Go.Abs

/- fpref02_Valid -/
@[simp] def c_fpref02_Valid : AFn := ⟨[(.tmp 2)],
  (.seq (.region false [⟨some 1, .box 3 (.t 0), none, false⟩,
 ⟨some 2, .mv (.c (.bool false)), none, false⟩]) (.seq (.seq (.region false [⟨some 4, .faddr 1 (.t 1), none, false⟩,
 ⟨some 5, .load false 1 (.t 4), none, false⟩,
 ⟨some 6, .len (.t 5), none, false⟩,
 ⟨some 7, .bin .num .eql (.t 6) (.c (.int .i64 0)), none, false⟩]) (.cond (.t 7) (.seq (.region false [⟨some 8, .faddr 0 (.t 1), none, false⟩,
 ⟨some 9, .load false 1 (.t 8), none, false⟩,
 ⟨some 10, .un .not (.t 9), none, false⟩,
 ⟨some 11, .mv (.t 10), none, false⟩,
 ⟨some 12, .faddr 2 (.t 1), some (11, true), false⟩,
 ⟨some 13, .load false 1 (.t 12), some (11, true), false⟩,
 ⟨some 14, .bin .num .eql (.t 13) (.c (.int .i64 0)), some (11, true), false⟩,
 ⟨some 15, .pick (.t 11) (.t 14) (.c (.bool false)), none, false⟩,
 ⟨some 2, .mv (.t 15), none, false⟩]) .ret) .skip)) (.seq (.seq (.region false [⟨some 16, .faddr 1 (.t 1), none, false⟩,
 ⟨some 17, .load false 1 (.t 16), none, false⟩,
 ⟨some 18, .len (.t 17), none, false⟩,
 ⟨some 19, .bin .num .gtr (.t 18) (.c (.int .i64 256)), none, false⟩,
 ⟨some 20, .mv (.t 19), none, false⟩,
 ⟨some 21, .faddr 1 (.t 1), some (20, false), false⟩,
 ⟨some 22, .load false 1 (.t 21), some (20, false), false⟩,
 ⟨some 23, .faddr 1 (.t 1), some (20, false), false⟩,
 ⟨some 24, .load false 1 (.t 23), some (20, false), false⟩,
 ⟨some 25, .len (.t 24), some (20, false), false⟩,
 ⟨some 26, .bin .num .sub (.t 25) (.c (.int .i64 1)), some (20, false), false⟩,
 ⟨some 27, .iaddr 1 (.t 22) (.t 26), some (20, false), false⟩,
 ⟨some 28, .load false 1 (.t 27), some (20, false), false⟩,
 ⟨some 29, .bin .num .eql (.t 28) (.c (.int .u32 0)), some (20, false), false⟩,
 ⟨some 30, .pick (.t 20) (.c (.bool true)) (.t 29), none, false⟩,
 ⟨some 31, .mv (.t 30), none, false⟩,
 ⟨some 32, .faddr 1 (.t 1), some (31, false), false⟩,
 ⟨some 33, .load false 1 (.t 32), some (31, false), false⟩,
 ⟨some 34, .iaddr 1 (.t 33) (.c (.int .i64 0)), some (31, false), false⟩,
 ⟨some 35, .load false 1 (.t 34), some (31, false), false⟩,
 ⟨some 36, .bin .num .and (.t 35) (.c (.int .u32 1)), some (31, false), false⟩,
 ⟨some 37, .bin .num .eql (.t 36) (.c (.int .u32 0)), some (31, false), false⟩,
 ⟨some 38, .pick (.t 31) (.c (.bool true)) (.t 37), none, false⟩,
 ⟨some 39, .mv (.t 38), none, false⟩,
 ⟨some 40, .faddr 2 (.t 1), some (39, false), false⟩,
 ⟨some 41, .load false 1 (.t 40), some (39, false), false⟩,
 ⟨some 42, .bin .num .lss (.t 41) (.c (.int .i64 (-16384))), some (39, false), false⟩,
 ⟨some 43, .pick (.t 39) (.c (.bool true)) (.t 42), none, false⟩,
 ⟨some 44, .mv (.t 43), none, false⟩,
 ⟨some 45, .faddr 2 (.t 1), some (44, false), false⟩,
 ⟨some 46, .load false 1 (.t 45), some (44, false), false⟩,
 ⟨some 47, .bin .num .gtr (.t 46) (.c (.int .i64 16384)), some (44, false), false⟩,
 ⟨some 48, .pick (.t 44) (.c (.bool true)) (.t 47), none, false⟩]) (.cond (.t 48) (.seq (.region false [⟨some 2, .mv (.c (.bool false)), none, false⟩]) .ret) .skip)) (.seq (.region false [⟨some 49, .faddr 1 (.t 1), none, false⟩,
 ⟨some 50, .load false 1 (.t 49), none, false⟩,
 ⟨some 51, .call (.f 49) [(.t 50)], none, false⟩,
 ⟨some 3, .mv (.t 51), none, false⟩]) (.seq (.region false [⟨some 52, .mv (.t 3), none, false⟩,
 ⟨some 53, .bin .num .leq (.t 52) (.c (.int .i64 4096)), none, false⟩,
 ⟨some 54, .mv (.t 53), none, false⟩,
 ⟨some 55, .mv (.t 3), some (54, true), false⟩,
 ⟨some 56, .faddr 2 (.t 1), some (54, true), false⟩,
 ⟨some 57, .load false 1 (.t 56), some (54, true), false⟩,
 ⟨some 58, .bin .num .add (.t 55) (.t 57), some (54, true), false⟩,
 ⟨some 59, .bin .num .leq (.t 58) (.c (.int .i64 16384)), some (54, true), false⟩,
 ⟨some 60, .pick (.t 54) (.t 59) (.c (.bool false)), none, false⟩,
 ⟨some 2, .mv (.t 60), none, false⟩]) .ret))))),
  false, false⟩

/- fpref02_Cmp -/
@[simp] def c_fpref02_Cmp : AFn := ⟨[(.tmp 4)],
  (.seq (.region false [⟨some 2, .box 3 (.t 0), none, false⟩,
 ⟨some 3, .box 3 (.t 1), none, false⟩,
 ⟨some 4, .mv (.c (.int .i64 0)), none, false⟩]) (.seq (.region true [⟨some 7, .load true 3 (.t 2), none, false⟩,
 ⟨some 8, .call (.f 54) [(.t 7)], none, false⟩,
 ⟨some 9, .load true 3 (.t 3), none, false⟩,
 ⟨some 10, .call (.f 54) [(.t 9)], none, true⟩,
 ⟨some 5, .mv (.t 8), none, false⟩,
 ⟨some 6, .mv (.t 10), none, false⟩]) (.seq (.seq (.region false [⟨some 11, .mv (.t 5), none, false⟩,
 ⟨some 12, .mv (.t 6), none, false⟩,
 ⟨some 13, .bin .num .neq (.t 11) (.t 12), none, false⟩]) (.cond (.t 13) (.seq (.seq (.region false [⟨some 14, .mv (.t 5), none, false⟩,
 ⟨some 15, .mv (.t 6), none, false⟩,
 ⟨some 16, .bin .num .lss (.t 14) (.t 15), none, false⟩]) (.cond (.t 16) (.seq (.region false [⟨some 4, .mv (.c (.int .i64 (-1))), none, false⟩]) .ret) .skip)) (.seq (.region false [⟨some 4, .mv (.c (.int .i64 1)), none, false⟩]) .ret)) .skip)) (.seq (.seq (.region false [⟨some 17, .mv (.t 5), none, false⟩,
 ⟨some 18, .bin .num .eql (.t 17) (.c (.int .i64 0)), none, false⟩]) (.cond (.t 18) (.seq (.region false [⟨some 4, .mv (.c (.int .i64 0)), none, false⟩]) .ret) .skip)) (.seq (.seq (.region true [⟨some 19, .load true 3 (.t 2), none, false⟩,
 ⟨some 20, .call (.f 55) [(.t 19)], none, false⟩,
 ⟨some 21, .load true 3 (.t 3), none, false⟩,
 ⟨some 22, .call (.f 55) [(.t 21)], none, true⟩,
 ⟨some 23, .bin .num .neq (.t 20) (.t 22), none, false⟩]) (.cond (.t 23) (.seq (.seq (.region true [⟨some 24, .load true 3 (.t 2), none, false⟩,
 ⟨some 25, .call (.f 55) [(.t 24)], none, false⟩,
 ⟨some 26, .load true 3 (.t 3), none, false⟩,
 ⟨some 27, .call (.f 55) [(.t 26)], none, true⟩,
 ⟨some 28, .bin .num .lss (.t 25) (.t 27), none, false⟩,
 ⟨some 29, .mv (.t 5), none, false⟩,
 ⟨some 30, .bin .num .gtr (.t 29) (.c (.int .i64 0)), none, false⟩,
 ⟨some 31, .bin .bool .eql (.t 28) (.t 30), none, false⟩]) (.cond (.t 31) (.seq (.region false [⟨some 4, .mv (.c (.int .i64 (-1))), none, false⟩]) .ret) .skip)) (.seq (.region false [⟨some 4, .mv (.c (.int .i64 1)), none, false⟩]) .ret)) .skip)) (.seq (.region true [⟨some 32, .load true 3 (.t 2), none, false⟩,
 ⟨some 33, .load true 3 (.t 3), none, false⟩,
 ⟨some 34, .call (.f 57) [(.t 33)], none, false⟩,
 ⟨some 35, .call (.f 56) [(.t 32), (.t 34)], none, true⟩,
 ⟨some 36, .call (.f 54) [(.t 35)], none, true⟩,
 ⟨some 4, .mv (.t 36), none, false⟩]) .ret)))))),
  false, false⟩

/- fpref02_Equal -/
@[simp] def c_fpref02_Equal : AFn := ⟨[(.tmp 4)],
  (.seq (.region false [⟨some 2, .box 3 (.t 0), none, false⟩,
 ⟨some 3, .box 3 (.t 1), none, false⟩,
 ⟨some 4, .mv (.c (.bool false)), none, false⟩]) (.seq (.region false [⟨some 5, .faddr 0 (.t 2), none, false⟩,
 ⟨some 6, .load false 1 (.t 5), none, false⟩,
 ⟨some 7, .faddr 0 (.t 3), none, false⟩,
 ⟨some 8, .load false 1 (.t 7), none, false⟩,
 ⟨some 9, .bin .bool .eql (.t 6) (.t 8), none, false⟩,
 ⟨some 10, .mv (.t 9), none, false⟩,
 ⟨some 11, .faddr 2 (.t 2), some (10, true), false⟩,
 ⟨some 12, .load false 1 (.t 11), some (10, true), false⟩,
 ⟨some 13, .faddr 2 (.t 3), some (10, true), false⟩,
 ⟨some 14, .load false 1 (.t 13), some (10, true), false⟩,
 ⟨some 15, .bin .num .eql (.t 12) (.t 14), some (10, true), false⟩,
 ⟨some 16, .pick (.t 10) (.t 15) (.c (.bool false)), none, false⟩,
 ⟨some 17, .mv (.t 16), none, false⟩,
 ⟨some 18, .faddr 1 (.t 2), some (17, true), false⟩,
 ⟨some 19, .load false 1 (.t 18), some (17, true), false⟩,
 ⟨some 20, .len (.t 19), some (17, true), false⟩,
 ⟨some 21, .faddr 1 (.t 3), some (17, true), false⟩,
 ⟨some 22, .load false 1 (.t 21), some (17, true), false⟩,
 ⟨some 23, .len (.t 22), some (17, true), false⟩,
 ⟨some 24, .bin .num .eql (.t 20) (.t 23), some (17, true), false⟩,
 ⟨some 25, .pick (.t 17) (.t 24) (.c (.bool false)), none, false⟩,
 ⟨some 26, .mv (.t 25), none, false⟩,
 ⟨some 27, .faddr 1 (.t 2), some (26, true), false⟩,
 ⟨some 28, .load false 1 (.t 27), some (26, true), false⟩,
 ⟨some 29, .faddr 1 (.t 3), some (26, true), false⟩,
 ⟨some 30, .load false 1 (.t 29), some (26, true), false⟩,
 ⟨some 31, .call (.f 63) [(.t 28), (.t 30)], some (26, true), false⟩,
 ⟨some 32, .bin .num .eql (.t 31) (.c (.int .i64 0)), some (26, true), false⟩,
 ⟨some 33, .pick (.t 26) (.t 32) (.c (.bool false)), none, false⟩,
 ⟨some 4, .mv (.t 33), none, false⟩]) .ret)),
  false, false⟩

/- fpref02_bits -/
def c_fpref02_bits_l0 : AC := (.seq (.seq (.region false [⟨some 18, .mv (.t 4), none, false⟩,
 ⟨some 19, .bin .num .gtr (.t 18) (.c (.int .u32 0)), none, false⟩]) (.cond (.t 19) .skip (.exit 0))) (.seq (.block 1 (.region false [⟨some 22, .mv (.t 3), none, false⟩,
 ⟨some 23, .bin .num .add (.t 22) (.c (.int .i64 1)), none, false⟩,
 ⟨some 3, .mv (.t 23), none, false⟩])) (.region false [⟨some 20, .mv (.t 4), none, false⟩,
 ⟨some 21, .bin .num .shr (.t 20) (.c (.int .u64 1)), none, false⟩,
 ⟨some 4, .mv (.t 21), none, false⟩])))
@[simp] def c_fpref02_bits : AFn := ⟨[(.tmp 2)],
  (.seq (.region false [⟨some 2, .mv (.c (.int .i64 0)), none, false⟩]) (.seq (.seq (.region false [⟨some 5, .mv (.t 0), none, false⟩,
 ⟨some 6, .len (.t 5), none, false⟩,
 ⟨some 7, .bin .num .eql (.t 6) (.c (.int .i64 0)), none, false⟩]) (.cond (.t 7) (.seq (.region false [⟨some 2, .mv (.c (.int .i64 0)), none, false⟩]) .ret) .skip)) (.seq (.region false [⟨some 8, .mv (.t 0), none, false⟩,
 ⟨some 9, .len (.t 8), none, false⟩,
 ⟨some 10, .bin .num .sub (.t 9) (.c (.int .i64 1)), none, false⟩,
 ⟨some 11, .bin .num .mul (.c (.int .i64 32)) (.t 10), none, false⟩,
 ⟨some 3, .mv (.t 11), none, false⟩]) (.seq (.seq (.region false [⟨some 12, .mv (.t 0), none, false⟩,
 ⟨some 13, .mv (.t 0), none, false⟩,
 ⟨some 14, .len (.t 13), none, false⟩,
 ⟨some 15, .bin .num .sub (.t 14) (.c (.int .i64 1)), none, false⟩,
 ⟨some 16, .iaddr 1 (.t 12) (.t 15), none, false⟩,
 ⟨some 17, .load false 1 (.t 16), none, false⟩,
 ⟨some 4, .mv (.t 17), none, false⟩]) (.block 0 (.loop c_fpref02_bits_l0))) (.seq (.region false [⟨some 24, .mv (.t 3), none, false⟩,
 ⟨some 2, .mv (.t 24), none, false⟩]) .ret))))),
  false, false⟩

/- dyadic_Valid -/
@[simp] def c_dyadic_Valid : AFn := ⟨[(.tmp 2)],
  (.seq (.region false [⟨some 1, .box 3 (.t 0), none, false⟩,
 ⟨some 2, .mv (.c (.bool false)), none, false⟩]) (.seq (.seq (.region false [⟨some 3, .faddr 1 (.t 1), none, false⟩,
 ⟨some 4, .load false 1 (.t 3), none, false⟩,
 ⟨some 5, .len (.t 4), none, false⟩,
 ⟨some 6, .bin .num .eql (.t 5) (.c (.int .i64 0)), none, false⟩]) (.cond (.t 6) (.seq (.region false [⟨some 7, .faddr 0 (.t 1), none, false⟩,
 ⟨some 8, .load false 1 (.t 7), none, false⟩,
 ⟨some 9, .un .not (.t 8), none, false⟩,
 ⟨some 10, .mv (.t 9), none, false⟩,
 ⟨some 11, .faddr 2 (.t 1), some (10, true), false⟩,
 ⟨some 12, .load false 1 (.t 11), some (10, true), false⟩,
 ⟨some 13, .bin .num .eql (.t 12) (.c (.int .i64 0)), some (10, true), false⟩,
 ⟨some 14, .pick (.t 10) (.t 13) (.c (.bool false)), none, false⟩,
 ⟨some 2, .mv (.t 14), none, false⟩]) .ret) .skip)) (.seq (.region false [⟨some 15, .faddr 1 (.t 1), none, false⟩,
 ⟨some 16, .load false 1 (.t 15), none, false⟩,
 ⟨some 17, .len (.t 16), none, false⟩,
 ⟨some 18, .bin .num .leq (.t 17) (.c (.int .i64 256)), none, false⟩,
 ⟨some 19, .mv (.t 18), none, false⟩,
 ⟨some 20, .faddr 1 (.t 1), some (19, true), false⟩,
 ⟨some 21, .load false 1 (.t 20), some (19, true), false⟩,
 ⟨some 22, .iaddr 1 (.t 21) (.c (.int .i64 0)), some (19, true), false⟩,
 ⟨some 23, .load false 1 (.t 22), some (19, true), false⟩,
 ⟨some 24, .bin .num .rem (.t 23) (.c (.int .u32 2)), some (19, true), false⟩,
 ⟨some 25, .bin .num .eql (.t 24) (.c (.int .u32 1)), some (19, true), false⟩,
 ⟨some 26, .pick (.t 19) (.t 25) (.c (.bool false)), none, false⟩,
 ⟨some 27, .mv (.t 26), none, false⟩,
 ⟨some 28, .faddr 1 (.t 1), some (27, true), false⟩,
 ⟨some 29, .load false 1 (.t 28), some (27, true), false⟩,
 ⟨some 30, .faddr 1 (.t 1), some (27, true), false⟩,
 ⟨some 31, .load false 1 (.t 30), some (27, true), false⟩,
 ⟨some 32, .len (.t 31), some (27, true), false⟩,
 ⟨some 33, .bin .num .sub (.t 32) (.c (.int .i64 1)), some (27, true), false⟩,
 ⟨some 34, .iaddr 1 (.t 29) (.t 33), some (27, true), false⟩,
 ⟨some 35, .load false 1 (.t 34), some (27, true), false⟩,
 ⟨some 36, .bin .num .neq (.t 35) (.c (.int .u32 0)), some (27, true), false⟩,
 ⟨some 37, .pick (.t 27) (.t 36) (.c (.bool false)), none, false⟩,
 ⟨some 38, .mv (.t 37), none, false⟩,
 ⟨some 39, .load true 3 (.t 1), some (38, true), false⟩,
 ⟨some 40, .call (.f 78) [(.t 39)], some (38, true), false⟩,
 ⟨some 41, .pick (.t 38) (.t 40) (.c (.bool false)), none, false⟩,
 ⟨some 2, .mv (.t 41), none, false⟩]) .ret))),
  false, false⟩

/- dyadic_Cmp -/
@[simp] def c_dyadic_Cmp : AFn := ⟨[(.tmp 4)],
  (.seq (.region false [⟨some 2, .box 3 (.t 0), none, false⟩,
 ⟨some 3, .box 3 (.t 1), none, false⟩,
 ⟨some 4, .mv (.c (.int .i64 0)), none, false⟩]) (.seq (.seq (.region false [⟨some 7, .load true 3 (.t 2), none, false⟩,
 ⟨some 8, .call (.f 51) [(.t 7)], none, false⟩,
 ⟨some 9, .un .not (.t 8), none, false⟩,
 ⟨some 10, .mv (.t 9), none, false⟩,
 ⟨some 11, .load true 3 (.t 3), some (10, false), false⟩,
 ⟨some 12, .call (.f 51) [(.t 11)], some (10, false), false⟩,
 ⟨some 13, .un .not (.t 12), some (10, false), false⟩,
 ⟨some 14, .pick (.t 10) (.c (.bool true)) (.t 13), none, false⟩]) (.cond (.t 14) (.seq (.region false [⟨some 4, .mv (.c (.int .i64 0)), none, false⟩]) .ret) .skip)) (.seq (.region true [⟨some 15, .load true 3 (.t 2), none, false⟩,
 ⟨some 16, .call (.f 79) [(.t 15)], none, false⟩,
 ⟨some 17, .load true 3 (.t 3), none, false⟩,
 ⟨some 18, .call (.f 79) [(.t 17)], none, true⟩,
 ⟨some 5, .mv (.t 16), none, false⟩,
 ⟨some 6, .mv (.t 18), none, false⟩]) (.seq (.block 0 (.seq (.region false [⟨some 20, .mv (.t 5), none, false⟩,
 ⟨some 21, .mv (.t 6), none, false⟩,
 ⟨some 22, .bin .num .lss (.t 20) (.t 21), none, false⟩,
 ⟨some 19, .mv (.t 22), none, false⟩]) (.cond (.t 19) (.seq (.region false [⟨some 4, .mv (.c (.int .i64 (-1))), none, false⟩]) .ret) (.seq (.region false [⟨some 24, .mv (.t 5), none, false⟩,
 ⟨some 25, .mv (.t 6), none, false⟩,
 ⟨some 26, .bin .num .gtr (.t 24) (.t 25), none, false⟩,
 ⟨some 23, .mv (.t 26), none, false⟩]) (.cond (.t 23) (.seq (.region false [⟨some 4, .mv (.c (.int .i64 1)), none, false⟩]) .ret) (.seq (.region false [⟨some 28, .mv (.t 5), none, false⟩,
 ⟨some 29, .bin .num .eql (.t 28) (.c (.int .i64 0)), none, false⟩,
 ⟨some 27, .mv (.t 29), none, false⟩]) (.cond (.t 27) (.seq (.region false [⟨some 4, .mv (.c (.int .i64 0)), none, false⟩]) .ret) .skip))))))) (.seq (.region false [⟨some 30, .mv (.t 5), none, false⟩,
 ⟨some 31, .load true 3 (.t 2), none, false⟩,
 ⟨some 32, .load true 3 (.t 3), none, false⟩,
 ⟨some 33, .call (.f 80) [(.t 31), (.t 32)], none, false⟩,
 ⟨some 34, .bin .num .mul (.t 30) (.t 33), none, false⟩,
 ⟨some 4, .mv (.t 34), none, false⟩]) .ret))))),
  false, false⟩

/- fpref02_Sign -/
@[simp] def c_fpref02_Sign : AFn := ⟨[(.tmp 2)],
  (.seq (.region false [⟨some 1, .box 3 (.t 0), none, false⟩,
 ⟨some 2, .mv (.c (.int .i64 0)), none, false⟩]) (.seq (.seq (.region false [⟨some 3, .faddr 1 (.t 1), none, false⟩,
 ⟨some 4, .load false 1 (.t 3), none, false⟩,
 ⟨some 5, .len (.t 4), none, false⟩,
 ⟨some 6, .bin .num .eql (.t 5) (.c (.int .i64 0)), none, false⟩]) (.cond (.t 6) (.seq (.region false [⟨some 2, .mv (.c (.int .i64 0)), none, false⟩]) .ret) .skip)) (.seq (.seq (.region false [⟨some 7, .faddr 0 (.t 1), none, false⟩,
 ⟨some 8, .load false 1 (.t 7), none, false⟩]) (.cond (.t 8) (.seq (.region false [⟨some 2, .mv (.c (.int .i64 (-1))), none, false⟩]) .ret) .skip)) (.seq (.region false [⟨some 2, .mv (.c (.int .i64 1)), none, false⟩]) .ret)))),
  false, false⟩

/- fpref02_Top -/
@[simp] def c_fpref02_Top : AFn := ⟨[(.tmp 2)],
  (.seq (.region false [⟨some 1, .box 3 (.t 0), none, false⟩,
 ⟨some 2, .mv (.c (.int .i64 0)), none, false⟩]) (.seq (.seq (.region false [⟨some 3, .faddr 1 (.t 1), none, false⟩,
 ⟨some 4, .load false 1 (.t 3), none, false⟩,
 ⟨some 5, .len (.t 4), none, false⟩,
 ⟨some 6, .bin .num .eql (.t 5) (.c (.int .i64 0)), none, false⟩]) (.cond (.t 6) (.seq (.region false [⟨some 2, .mv (.c (.int .i64 0)), none, false⟩]) .ret) .skip)) (.seq (.region true [⟨some 7, .faddr 1 (.t 1), none, false⟩,
 ⟨some 8, .load false 1 (.t 7), none, false⟩,
 ⟨some 9, .call (.f 49) [(.t 8)], none, false⟩,
 ⟨some 10, .faddr 2 (.t 1), none, false⟩,
 ⟨some 11, .load false 1 (.t 10), none, false⟩,
 ⟨some 12, .bin .num .add (.t 9) (.t 11), none, false⟩,
 ⟨some 2, .mv (.t 12), none, false⟩]) .ret))),
  false, false⟩

/- fpref02_Sum -/
@[simp] def c_fpref02_Sum : AFn := ⟨[(.cell 4 true 3)],
  (.seq (.region false [⟨some 2, .box 3 (.t 0), none, false⟩,
 ⟨some 3, .box 3 (.t 1), none, false⟩,
 ⟨some 4, .new 3 (.agg [(.bool false), .nil, (.int .i64 0)]), none, false⟩]) (.seq (.seq (.region false [⟨some 8, .faddr 1 (.t 2), none, false⟩,
 ⟨some 9, .load false 1 (.t 8), none, false⟩,
 ⟨some 10, .len (.t 9), none, false⟩,
 ⟨some 11, .bin .num .eql (.t 10) (.c (.int .i64 0)), none, false⟩]) (.cond (.t 11) (.seq (.region false [⟨some 12, .load true 3 (.t 3), none, false⟩,
 ⟨none, .store 3 (.t 4) (.t 12), none, false⟩]) .ret) .skip)) (.seq (.seq (.region false [⟨some 13, .faddr 1 (.t 3), none, false⟩,
 ⟨some 14, .load false 1 (.t 13), none, false⟩,
 ⟨some 15, .len (.t 14), none, false⟩,
 ⟨some 16, .bin .num .eql (.t 15) (.c (.int .i64 0)), none, false⟩]) (.cond (.t 16) (.seq (.region false [⟨some 17, .load true 3 (.t 2), none, false⟩,
 ⟨none, .store 3 (.t 4) (.t 17), none, false⟩]) .ret) .skip)) (.seq (.region false [⟨some 18, .faddr 2 (.t 2), none, false⟩,
 ⟨some 19, .load false 1 (.t 18), none, false⟩,
 ⟨some 20, .faddr 2 (.t 3), none, false⟩,
 ⟨some 21, .load false 1 (.t 20), none, false⟩,
 ⟨some 22, .min (.t 19) (.t 21), none, false⟩,
 ⟨some 5, .mv (.t 22), none, false⟩]) (.seq (.region true [⟨some 23, .faddr 1 (.t 2), none, false⟩,
 ⟨some 24, .load false 1 (.t 23), none, false⟩,
 ⟨some 25, .faddr 2 (.t 2), none, false⟩,
 ⟨some 26, .load false 1 (.t 25), none, false⟩,
 ⟨some 27, .mv (.t 5), none, false⟩,
 ⟨some 28, .bin .num .sub (.t 26) (.t 27), none, false⟩,
 ⟨some 29, .call (.f 84) [(.t 24), (.t 28)], none, false⟩,
 ⟨some 30, .faddr 1 (.t 3), none, false⟩,
 ⟨some 31, .load false 1 (.t 30), none, false⟩,
 ⟨some 32, .faddr 2 (.t 3), none, false⟩,
 ⟨some 33, .load false 1 (.t 32), none, false⟩,
 ⟨some 34, .mv (.t 5), none, false⟩,
 ⟨some 35, .bin .num .sub (.t 33) (.t 34), none, false⟩,
 ⟨some 36, .call (.f 84) [(.t 31), (.t 35)], none, true⟩,
 ⟨some 6, .mv (.t 29), none, false⟩,
 ⟨some 7, .mv (.t 36), none, false⟩]) (.seq (.seq (.region false [⟨some 37, .faddr 0 (.t 2), none, false⟩,
 ⟨some 38, .load false 1 (.t 37), none, false⟩,
 ⟨some 39, .faddr 0 (.t 3), none, false⟩,
 ⟨some 40, .load false 1 (.t 39), none, false⟩,
 ⟨some 41, .bin .bool .eql (.t 38) (.t 40), none, false⟩]) (.cond (.t 41) (.seq (.region true [⟨some 42, .faddr 0 (.t 2), none, false⟩,
 ⟨some 43, .load false 1 (.t 42), none, false⟩,
 ⟨some 44, .mv (.t 6), none, false⟩,
 ⟨some 45, .mv (.t 7), none, false⟩,
 ⟨some 46, .call (.f 86) [(.t 44), (.t 45)], none, false⟩,
 ⟨some 47, .mv (.t 5), none, false⟩,
 ⟨some 48, .call (.f 85) [(.t 43), (.t 46), (.t 47)], none, true⟩,
 ⟨none, .store 3 (.t 4) (.t 48), none, true⟩]) .ret) .skip)) (.seq (.seq (.region false [⟨some 49, .mv (.t 6), none, false⟩,
 ⟨some 50, .mv (.t 7), none, false⟩,
 ⟨some 51, .call (.f 63) [(.t 49), (.t 50)], none, false⟩,
 ⟨some 52, .bin .num .geq (.t 51) (.c (.int .i64 0)), none, false⟩]) (.cond (.t 52) (.seq (.region true [⟨some 53, .faddr 0 (.t 2), none, false⟩,
 ⟨some 54, .load false 1 (.t 53), none, false⟩,
 ⟨some 55, .mv (.t 6), none, false⟩,
 ⟨some 56, .mv (.t 7), none, false⟩,
 ⟨some 57, .call (.f 87) [(.t 55), (.t 56)], none, false⟩,
 ⟨some 58, .mv (.t 5), none, false⟩,
 ⟨some 59, .call (.f 85) [(.t 54), (.t 57), (.t 58)], none, true⟩,
 ⟨none, .store 3 (.t 4) (.t 59), none, true⟩]) .ret) .skip)) (.seq (.region true [⟨some 60, .faddr 0 (.t 3), none, false⟩,
 ⟨some 61, .load false 1 (.t 60), none, false⟩,
 ⟨some 62, .mv (.t 7), none, false⟩,
 ⟨some 63, .mv (.t 6), none, false⟩,
 ⟨some 64, .call (.f 87) [(.t 62), (.t 63)], none, false⟩,
 ⟨some 65, .mv (.t 5), none, false⟩,
 ⟨some 66, .call (.f 85) [(.t 61), (.t 64), (.t 65)], none, true⟩,
 ⟨none, .store 3 (.t 4) (.t 66), none, true⟩]) .ret)))))))),
  false, false⟩

/- fpref02_Neg -/
@[simp] def c_fpref02_Neg : AFn := ⟨[(.cell 2 true 3)],
  (.seq (.region false [⟨some 1, .box 3 (.t 0), none, false⟩,
 ⟨some 2, .new 3 (.agg [(.bool false), .nil, (.int .i64 0)]), none, false⟩]) (.seq (.region false [⟨some 3, .faddr 0 (.t 1), none, false⟩,
 ⟨some 4, .load false 1 (.t 3), none, false⟩,
 ⟨some 5, .un .not (.t 4), none, false⟩,
 ⟨some 6, .mv (.t 5), none, false⟩,
 ⟨some 7, .faddr 1 (.t 1), some (6, true), false⟩,
 ⟨some 8, .load false 1 (.t 7), some (6, true), false⟩,
 ⟨some 9, .len (.t 8), some (6, true), false⟩,
 ⟨some 10, .bin .num .gtr (.t 9) (.c (.int .i64 0)), some (6, true), false⟩,
 ⟨some 11, .pick (.t 6) (.t 10) (.c (.bool false)), none, false⟩,
 ⟨some 12, .faddr 1 (.t 1), none, false⟩,
 ⟨some 13, .load false 1 (.t 12), none, false⟩,
 ⟨some 14, .faddr 2 (.t 1), none, false⟩,
 ⟨some 15, .load false 1 (.t 14), none, false⟩,
 ⟨some 16, .build [(.bool false), .nil, (.int .i64 0)] [(0, 1, (.t 11)), (1, 1, (.t 13)), (2, 1, (.t 15))], none, false⟩,
 ⟨none, .store 3 (.t 2) (.t 16), none, false⟩]) .ret)),
  false, false⟩

/- fpref05_Equal -/
@[simp] def c_fpref05_Equal : AFn := ⟨[(.tmp 4)],
  (.seq (.region false [⟨some 2, .box 7 (.t 0), none, false⟩,
 ⟨some 3, .box 7 (.t 1), none, false⟩,
 ⟨some 4, .mv (.c (.bool false)), none, false⟩]) (.seq (.region false [⟨some 5, .faddr 6 (.t 2), none, false⟩,
 ⟨some 6, .load false 1 (.t 5), none, false⟩,
 ⟨some 7, .faddr 6 (.t 3), none, false⟩,
 ⟨some 8, .load false 1 (.t 7), none, false⟩,
 ⟨some 9, .bin .bool .eql (.t 6) (.t 8), none, false⟩,
 ⟨some 10, .mv (.t 9), none, false⟩,
 ⟨some 11, .faddr 0 (.t 2), some (10, true), false⟩,
 ⟨some 12, .load true 3 (.t 11), some (10, true), false⟩,
 ⟨some 13, .faddr 0 (.t 3), some (10, true), false⟩,
 ⟨some 14, .load true 3 (.t 13), some (10, true), false⟩,
 ⟨some 15, .call (.f 23) [(.t 12), (.t 14)], some (10, true), false⟩,
 ⟨some 16, .pick (.t 10) (.t 15) (.c (.bool false)), none, false⟩,
 ⟨some 17, .mv (.t 16), none, false⟩,
 ⟨some 18, .faddr 3 (.t 2), some (17, true), false⟩,
 ⟨some 19, .load true 3 (.t 18), some (17, true), false⟩,
 ⟨some 20, .faddr 3 (.t 3), some (17, true), false⟩,
 ⟨some 21, .load true 3 (.t 20), some (17, true), false⟩,
 ⟨some 22, .call (.f 23) [(.t 19), (.t 21)], some (17, true), false⟩,
 ⟨some 23, .pick (.t 17) (.t 22) (.c (.bool false)), none, false⟩,
 ⟨some 4, .mv (.t 23), none, false⟩]) .ret)),
  false, false⟩

/- fpref02_compare -/
def c_fpref02_compare_l0 : AC := (.seq (.seq (.region false [⟨some 19, .mv (.t 5), none, false⟩,
 ⟨some 20, .bin .num .geq (.t 19) (.c (.int .i64 0)), none, false⟩]) (.cond (.t 20) .skip (.exit 0))) (.seq (.block 1 (.seq (.seq (.region true [⟨some 23, .mv (.t 0), none, false⟩,
 ⟨some 24, .mv (.t 5), none, false⟩,
 ⟨some 25, .iaddr 1 (.t 23) (.t 24), none, false⟩,
 ⟨some 26, .load false 1 (.t 25), none, false⟩,
 ⟨some 27, .mv (.t 1), none, false⟩,
 ⟨some 28, .mv (.t 5), none, false⟩,
 ⟨some 29, .iaddr 1 (.t 27) (.t 28), none, false⟩,
 ⟨some 30, .load false 1 (.t 29), none, false⟩,
 ⟨some 31, .bin .num .lss (.t 26) (.t 30), none, false⟩]) (.cond (.t 31) (.seq (.region false [⟨some 4, .mv (.c (.int .i64 (-1))), none, false⟩]) .ret) .skip)) (.seq (.region true [⟨some 32, .mv (.t 0), none, false⟩,
 ⟨some 33, .mv (.t 5), none, false⟩,
 ⟨some 34, .iaddr 1 (.t 32) (.t 33), none, false⟩,
 ⟨some 35, .load false 1 (.t 34), none, false⟩,
 ⟨some 36, .mv (.t 1), none, false⟩,
 ⟨some 37, .mv (.t 5), none, false⟩,
 ⟨some 38, .iaddr 1 (.t 36) (.t 37), none, false⟩,
 ⟨some 39, .load false 1 (.t 38), none, false⟩,
 ⟨some 40, .bin .num .gtr (.t 35) (.t 39), none, false⟩]) (.cond (.t 40) (.seq (.region false [⟨some 4, .mv (.c (.int .i64 1)), none, false⟩]) .ret) .skip)))) (.region false [⟨some 21, .mv (.t 5), none, false⟩,
 ⟨some 22, .bin .num .sub (.t 21) (.c (.int .i64 1)), none, false⟩,
 ⟨some 5, .mv (.t 22), none, false⟩])))
@[simp] def c_fpref02_compare : AFn := ⟨[(.tmp 4)],
  (.seq (.region false [⟨some 4, .mv (.c (.int .i64 0)), none, false⟩]) (.seq (.seq (.region false [⟨some 6, .mv (.t 0), none, false⟩,
 ⟨some 7, .len (.t 6), none, false⟩,
 ⟨some 8, .mv (.t 1), none, false⟩,
 ⟨some 9, .len (.t 8), none, false⟩,
 ⟨some 10, .bin .num .neq (.t 7) (.t 9), none, false⟩]) (.cond (.t 10) (.seq (.seq (.region false [⟨some 11, .mv (.t 0), none, false⟩,
 ⟨some 12, .len (.t 11), none, false⟩,
 ⟨some 13, .mv (.t 1), none, false⟩,
 ⟨some 14, .len (.t 13), none, false⟩,
 ⟨some 15, .bin .num .lss (.t 12) (.t 14), none, false⟩]) (.cond (.t 15) (.seq (.region false [⟨some 4, .mv (.c (.int .i64 (-1))), none, false⟩]) .ret) .skip)) (.seq (.region false [⟨some 4, .mv (.c (.int .i64 1)), none, false⟩]) .ret)) .skip)) (.seq (.seq (.region false [⟨some 16, .mv (.t 0), none, false⟩,
 ⟨some 17, .len (.t 16), none, false⟩,
 ⟨some 18, .bin .num .sub (.t 17) (.c (.int .i64 1)), none, false⟩,
 ⟨some 5, .mv (.t 18), none, false⟩]) (.block 0 (.loop c_fpref02_compare_l0))) (.seq (.region false [⟨some 4, .mv (.c (.int .i64 0)), none, false⟩]) .ret)))),
  false, false⟩

/- fpref05_Inside -/
@[simp] def c_fpref05_Inside : AFn := ⟨[(.tmp 4)],
  (.seq (.region false [⟨some 2, .box 7 (.t 0), none, false⟩,
 ⟨some 3, .box 7 (.t 1), none, false⟩,
 ⟨some 4, .mv (.c (.bool false)), none, false⟩]) (.seq (.seq (.region false [⟨some 5, .load true 7 (.t 2), none, false⟩,
 ⟨some 6, .call (.f 70) [(.t 5)], none, false⟩,
 ⟨some 7, .un .not (.t 6), none, false⟩,
 ⟨some 8, .mv (.t 7), none, false⟩,
 ⟨some 9, .load true 7 (.t 3), some (8, false), false⟩,
 ⟨some 10, .call (.f 70) [(.t 9)], some (8, false), false⟩,
 ⟨some 11, .un .not (.t 10), some (8, false), false⟩,
 ⟨some 12, .pick (.t 8) (.c (.bool true)) (.t 11), none, false⟩,
 ⟨some 13, .mv (.t 12), none, false⟩,
 ⟨some 14, .faddr 6 (.t 2), some (13, false), false⟩,
 ⟨some 15, .load false 1 (.t 14), some (13, false), false⟩,
 ⟨some 16, .pick (.t 13) (.c (.bool true)) (.t 15), none, false⟩]) (.cond (.t 16) (.seq (.region false [⟨some 17, .load true 7 (.t 2), none, false⟩,
 ⟨some 18, .call (.f 70) [(.t 17)], none, false⟩,
 ⟨some 19, .mv (.t 18), none, false⟩,
 ⟨some 20, .load true 7 (.t 3), some (19, true), false⟩,
 ⟨some 21, .call (.f 70) [(.t 20)], some (19, true), false⟩,
 ⟨some 22, .pick (.t 19) (.t 21) (.c (.bool false)), none, false⟩,
 ⟨some 23, .mv (.t 22), none, false⟩,
 ⟨some 24, .faddr 6 (.t 3), some (23, true), false⟩,
 ⟨some 25, .load false 1 (.t 24), some (23, true), false⟩,
 ⟨some 26, .pick (.t 23) (.t 25) (.c (.bool false)), none, false⟩,
 ⟨some 4, .mv (.t 26), none, false⟩]) .ret) .skip)) (.seq (.region false [⟨some 27, .faddr 6 (.t 3), none, false⟩,
 ⟨some 28, .load false 1 (.t 27), none, false⟩,
 ⟨some 29, .mv (.t 28), none, false⟩,
 ⟨some 30, .faddr 0 (.t 3), some (29, false), false⟩,
 ⟨some 31, .load true 3 (.t 30), some (29, false), false⟩,
 ⟨some 32, .faddr 0 (.t 2), some (29, false), false⟩,
 ⟨some 33, .load true 3 (.t 32), some (29, false), false⟩,
 ⟨some 34, .call (.f 18) [(.t 31), (.t 33)], some (29, false), false⟩,
 ⟨some 35, .bin .num .leq (.t 34) (.c (.int .i64 0)), some (29, false), false⟩,
 ⟨some 36, .mv (.t 35), some (29, false), false⟩,
 ⟨some 37, .faddr 3 (.t 2), some (36, true), false⟩,
 ⟨some 38, .load true 3 (.t 37), some (36, true), false⟩,
 ⟨some 39, .faddr 3 (.t 3), some (36, true), false⟩,
 ⟨some 40, .load true 3 (.t 39), some (36, true), false⟩,
 ⟨some 41, .call (.f 18) [(.t 38), (.t 40)], some (36, true), false⟩,
 ⟨some 42, .bin .num .leq (.t 41) (.c (.int .i64 0)), some (36, true), false⟩,
 ⟨some 43, .pick (.t 36) (.t 42) (.c (.bool false)), some (29, false), false⟩,
 ⟨some 44, .pick (.t 29) (.c (.bool true)) (.t 43), none, false⟩,
 ⟨some 4, .mv (.t 44), none, false⟩]) .ret))),
  false, false⟩

/- fpref05_Valid -/
@[simp] def c_fpref05_Valid : AFn := ⟨[(.tmp 2)],
  (.seq (.region false [⟨some 1, .box 7 (.t 0), none, false⟩,
 ⟨some 2, .mv (.c (.bool false)), none, false⟩]) (.seq (.seq (.region false [⟨some 3, .faddr 6 (.t 1), none, false⟩,
 ⟨some 4, .load false 1 (.t 3), none, false⟩]) (.cond (.t 4) (.seq (.region false [⟨some 5, .faddr 0 (.t 1), none, false⟩,
 ⟨some 6, .load true 3 (.t 5), none, false⟩,
 ⟨some 7, .call (.f 91) [(.t 6)], none, false⟩,
 ⟨some 8, .mv (.t 7), none, false⟩,
 ⟨some 9, .faddr 3 (.t 1), some (8, true), false⟩,
 ⟨some 10, .load true 3 (.t 9), some (8, true), false⟩,
 ⟨some 11, .call (.f 91) [(.t 10)], some (8, true), false⟩,
 ⟨some 12, .pick (.t 8) (.t 11) (.c (.bool false)), none, false⟩,
 ⟨some 2, .mv (.t 12), none, false⟩]) .ret) .skip)) (.seq (.region false [⟨some 13, .faddr 0 (.t 1), none, false⟩,
 ⟨some 14, .load true 3 (.t 13), none, false⟩,
 ⟨some 15, .call (.f 12) [(.t 14)], none, false⟩,
 ⟨some 16, .mv (.t 15), none, false⟩,
 ⟨some 17, .faddr 3 (.t 1), some (16, true), false⟩,
 ⟨some 18, .load true 3 (.t 17), some (16, true), false⟩,
 ⟨some 19, .call (.f 12) [(.t 18)], some (16, true), false⟩,
 ⟨some 20, .pick (.t 16) (.t 19) (.c (.bool false)), none, false⟩,
 ⟨some 21, .mv (.t 20), none, false⟩,
 ⟨some 22, .faddr 0 (.t 1), some (21, true), false⟩,
 ⟨some 23, .load true 3 (.t 22), some (21, true), false⟩,
 ⟨some 24, .faddr 3 (.t 1), some (21, true), false⟩,
 ⟨some 25, .load true 3 (.t 24), some (21, true), false⟩,
 ⟨some 26, .call (.f 18) [(.t 23), (.t 25)], some (21, true), false⟩,
 ⟨some 27, .bin .num .leq (.t 26) (.c (.int .i64 0)), some (21, true), false⟩,
 ⟨some 28, .pick (.t 21) (.t 27) (.c (.bool false)), none, false⟩,
 ⟨some 2, .mv (.t 28), none, false⟩]) .ret))),
  false, false⟩

/- fpref05_Meet -/
@[simp] def c_fpref05_Meet : AFn := ⟨[(.cell 4 true 7), (.tmp 5)],
  (.seq (.region false [⟨some 2, .box 7 (.t 0), none, false⟩,
 ⟨some 3, .box 7 (.t 1), none, false⟩,
 ⟨some 4, .new 7 (.agg [(.bool false), .nil, (.int .i64 0), (.bool false), .nil, (.int .i64 0), (.bool false)]), none, false⟩,
 ⟨some 5, .mv (.c (.bool false)), none, false⟩]) (.seq (.seq (.region false [⟨some 7, .load true 7 (.t 2), none, false⟩,
 ⟨some 8, .call (.f 70) [(.t 7)], none, false⟩,
 ⟨some 9, .un .not (.t 8), none, false⟩,
 ⟨some 10, .mv (.t 9), none, false⟩,
 ⟨some 11, .load true 7 (.t 3), some (10, false), false⟩,
 ⟨some 12, .call (.f 70) [(.t 11)], some (10, false), false⟩,
 ⟨some 13, .un .not (.t 12), some (10, false), false⟩,
 ⟨some 14, .pick (.t 10) (.c (.bool true)) (.t 13), none, false⟩]) (.cond (.t 14) (.seq (.region false [⟨some 15, .build [(.bool false), .nil, (.int .i64 0), (.bool false), .nil, (.int .i64 0), (.bool false)] [], none, false⟩,
 ⟨none, .store 7 (.t 4) (.t 15), none, false⟩,
 ⟨some 5, .mv (.c (.bool false)), none, false⟩]) .ret) .skip)) (.seq (.seq (.region false [⟨some 16, .faddr 6 (.t 2), none, false⟩,
 ⟨some 17, .load false 1 (.t 16), none, false⟩]) (.cond (.t 17) (.seq (.region false [⟨some 18, .load true 7 (.t 3), none, false⟩,
 ⟨none, .store 7 (.t 4) (.t 18), none, false⟩,
 ⟨some 5, .mv (.c (.bool true)), none, false⟩]) .ret) .skip)) (.seq (.seq (.region false [⟨some 19, .faddr 6 (.t 3), none, false⟩,
 ⟨some 20, .load false 1 (.t 19), none, false⟩]) (.cond (.t 20) (.seq (.region false [⟨some 21, .load true 7 (.t 2), none, false⟩,
 ⟨none, .store 7 (.t 4) (.t 21), none, false⟩,
 ⟨some 5, .mv (.c (.bool true)), none, false⟩]) .ret) .skip)) (.seq (.region true [⟨some 22, .faddr 0 (.t 2), none, false⟩,
 ⟨some 23, .load true 3 (.t 22), none, false⟩,
 ⟨some 24, .faddr 0 (.t 3), none, false⟩,
 ⟨some 25, .load true 3 (.t 24), none, false⟩,
 ⟨some 26, .call (.f 92) [(.t 23), (.t 25)], none, false⟩,
 ⟨some 27, .faddr 3 (.t 2), none, false⟩,
 ⟨some 28, .load true 3 (.t 27), none, false⟩,
 ⟨some 29, .faddr 3 (.t 3), none, false⟩,
 ⟨some 30, .load true 3 (.t 29), none, false⟩,
 ⟨some 31, .call (.f 93) [(.t 28), (.t 30)], none, false⟩,
 ⟨some 32, .build [(.bool false), .nil, (.int .i64 0), (.bool false), .nil, (.int .i64 0), (.bool false)] [(0, 3, (.t 26)), (3, 3, (.t 31))], none, false⟩,
 ⟨some 6, .new 7 (.agg [(.bool false), .nil, (.int .i64 0), (.bool false), .nil, (.int .i64 0), (.bool false)]), none, false⟩,
 ⟨none, .store 7 (.t 6) (.t 32), none, true⟩]) (.seq (.seq (.region false [⟨some 33, .faddr 0 (.t 6), none, false⟩,
 ⟨some 34, .load true 3 (.t 33), none, false⟩,
 ⟨some 35, .faddr 3 (.t 6), none, false⟩,
 ⟨some 36, .load true 3 (.t 35), none, false⟩,
 ⟨some 37, .call (.f 18) [(.t 34), (.t 36)], none, false⟩,
 ⟨some 38, .bin .num .gtr (.t 37) (.c (.int .i64 0)), none, false⟩]) (.cond (.t 38) (.seq (.region false [⟨some 39, .build [(.bool false), .nil, (.int .i64 0), (.bool false), .nil, (.int .i64 0), (.bool false)] [], none, false⟩,
 ⟨none, .store 7 (.t 4) (.t 39), none, false⟩,
 ⟨some 5, .mv (.c (.bool false)), none, false⟩]) .ret) .skip)) (.seq (.region false [⟨some 40, .load true 7 (.t 6), none, false⟩,
 ⟨none, .store 7 (.t 4) (.t 40), none, false⟩,
 ⟨some 5, .mv (.c (.bool true)), none, false⟩]) .ret))))))),
  false, false⟩

end Go.Abs
/- MADE BY A PROGRAM (wip/tools/dump.sh, mkcode.py): the abstract code of the functions that this seat reaches. -/
namespace Go.Abs

/- fpref02_Int -/
@[simp] def c_fpref02_Int : AFn := ⟨[(.cell 2 true 3)],
  (.seq (.region false [⟨some 2, .new 3 (.agg [(.bool false), .nil, (.int .i64 0)]), none, false⟩]) (.seq (.region false [⟨some 4, .mv (.t 0), none, false⟩,
 ⟨some 5, .conv .u64 (.t 4), none, false⟩,
 ⟨some 3, .mv (.t 5), none, false⟩]) (.seq (.seq (.region false [⟨some 6, .mv (.t 0), none, false⟩,
 ⟨some 7, .bin .num .lss (.t 6) (.c (.int .i64 0)), none, false⟩]) (.cond (.t 7) (.region false [⟨some 8, .mv (.t 3), none, false⟩,
 ⟨some 9, .bin .num .sub (.c (.int .u64 0)) (.t 8), none, false⟩,
 ⟨some 3, .mv (.t 9), none, false⟩]) .skip)) (.seq (.region false [⟨some 10, .mv (.t 0), none, false⟩,
 ⟨some 11, .bin .num .lss (.t 10) (.c (.int .i64 0)), none, false⟩,
 ⟨some 12, .mv (.t 3), none, false⟩,
 ⟨some 13, .bin .num .and (.t 12) (.c (.int .u64 4294967295)), none, false⟩,
 ⟨some 14, .conv .u32 (.t 13), none, false⟩,
 ⟨some 15, .mv (.t 3), none, false⟩,
 ⟨some 16, .bin .num .shr (.t 15) (.c (.int .u64 32)), none, false⟩,
 ⟨some 17, .conv .u32 (.t 16), none, false⟩,
 ⟨some 18, .bslice 1 2 (.int .u32 0) [(0, (.t 14)), (1, (.t 17))], none, false⟩,
 ⟨some 19, .call (.f 85) [(.t 11), (.t 18), (.c (.int .i64 0))], none, false⟩,
 ⟨none, .store 3 (.t 2) (.t 19), none, false⟩]) .ret)))),
  false, false⟩

/- interval_Valid -/
@[simp] def c_interval_Valid : AFn := ⟨[(.tmp 2)],
  (.seq (.region false [⟨some 1, .box 7 (.t 0), none, false⟩,
 ⟨some 2, .mv (.c (.bool false)), none, false⟩]) (.seq (.seq (.region false [⟨some 4, .faddr 6 (.t 1), none, false⟩,
 ⟨some 5, .load false 1 (.t 4), none, false⟩]) (.cond (.t 5) (.seq (.region false [⟨some 3, .mv (.f 96), none, false⟩]) (.seq (.region false [⟨some 6, .mv (.t 3), none, false⟩,
 ⟨some 7, .faddr 0 (.t 1), none, false⟩,
 ⟨some 8, .load true 3 (.t 7), none, false⟩,
 ⟨some 9, .call (.t 6) [(.t 8)], none, false⟩,
 ⟨some 10, .mv (.t 9), none, false⟩,
 ⟨some 11, .mv (.t 3), some (10, true), false⟩,
 ⟨some 12, .faddr 3 (.t 1), some (10, true), false⟩,
 ⟨some 13, .load true 3 (.t 12), some (10, true), false⟩,
 ⟨some 14, .call (.t 11) [(.t 13)], some (10, true), false⟩,
 ⟨some 15, .pick (.t 10) (.t 14) (.c (.bool false)), none, false⟩,
 ⟨some 2, .mv (.t 15), none, false⟩]) .ret)) .skip)) (.seq (.region false [⟨some 16, .faddr 0 (.t 1), none, false⟩,
 ⟨some 17, .load true 3 (.t 16), none, false⟩,
 ⟨some 18, .call (.f 51) [(.t 17)], none, false⟩,
 ⟨some 19, .mv (.t 18), none, false⟩,
 ⟨some 20, .faddr 3 (.t 1), some (19, true), false⟩,
 ⟨some 21, .load true 3 (.t 20), some (19, true), false⟩,
 ⟨some 22, .call (.f 51) [(.t 21)], some (19, true), false⟩,
 ⟨some 23, .pick (.t 19) (.t 22) (.c (.bool false)), none, false⟩,
 ⟨some 24, .mv (.t 23), none, false⟩,
 ⟨some 25, .faddr 0 (.t 1), some (24, true), false⟩,
 ⟨some 26, .load true 3 (.t 25), some (24, true), false⟩,
 ⟨some 27, .faddr 3 (.t 1), some (24, true), false⟩,
 ⟨some 28, .load true 3 (.t 27), some (24, true), false⟩,
 ⟨some 29, .call (.f 52) [(.t 26), (.t 28)], some (24, true), false⟩,
 ⟨some 30, .bin .num .leq (.t 29) (.c (.int .i64 0)), some (24, true), false⟩,
 ⟨some 31, .pick (.t 24) (.t 30) (.c (.bool false)), none, false⟩,
 ⟨some 2, .mv (.t 31), none, false⟩]) .ret))),
  false, false⟩

/- dyadic_inRange -/
@[simp] def c_dyadic_inRange : AFn := ⟨[(.tmp 2)],
  (.seq (.region false [⟨some 1, .box 3 (.t 0), none, false⟩,
 ⟨some 2, .mv (.c (.bool false)), none, false⟩]) (.seq (.region false [⟨some 4, .faddr 1 (.t 1), none, false⟩,
 ⟨some 5, .load false 1 (.t 4), none, false⟩,
 ⟨some 6, .call (.f 97) [(.t 5)], none, false⟩,
 ⟨some 3, .mv (.t 6), none, false⟩]) (.seq (.region false [⟨some 7, .mv (.t 3), none, false⟩,
 ⟨some 8, .bin .num .eql (.t 7) (.c (.int .i64 0)), none, false⟩,
 ⟨some 9, .mv (.t 8), none, false⟩,
 ⟨some 10, .mv (.t 3), some (9, false), false⟩,
 ⟨some 11, .bin .num .leq (.t 10) (.c (.int .i64 4096)), some (9, false), false⟩,
 ⟨some 12, .mv (.t 11), some (9, false), false⟩,
 ⟨some 13, .faddr 2 (.t 1), some (12, true), false⟩,
 ⟨some 14, .load false 1 (.t 13), some (12, true), false⟩,
 ⟨some 15, .bin .num .geq (.t 14) (.c (.int .i64 (-16384))), some (12, true), false⟩,
 ⟨some 16, .pick (.t 12) (.t 15) (.c (.bool false)), some (9, false), false⟩,
 ⟨some 17, .mv (.t 16), some (9, false), false⟩,
 ⟨some 18, .faddr 2 (.t 1), some (17, true), false⟩,
 ⟨some 19, .load false 1 (.t 18), some (17, true), false⟩,
 ⟨some 20, .bin .num .leq (.t 19) (.c (.int .i64 16384)), some (17, true), false⟩,
 ⟨some 21, .pick (.t 17) (.t 20) (.c (.bool false)), some (9, false), false⟩,
 ⟨some 22, .mv (.t 21), some (9, false), false⟩,
 ⟨some 23, .mv (.t 3), some (22, true), false⟩,
 ⟨some 24, .faddr 2 (.t 1), some (22, true), false⟩,
 ⟨some 25, .load false 1 (.t 24), some (22, true), false⟩,
 ⟨some 26, .bin .num .add (.t 23) (.t 25), some (22, true), false⟩,
 ⟨some 27, .bin .num .leq (.t 26) (.c (.int .i64 16384)), some (22, true), false⟩,
 ⟨some 28, .pick (.t 22) (.t 27) (.c (.bool false)), some (9, false), false⟩,
 ⟨some 29, .pick (.t 9) (.c (.bool true)) (.t 28), none, false⟩,
 ⟨some 2, .mv (.t 29), none, false⟩]) .ret))),
  false, false⟩

/- dyadic_Sign -/
@[simp] def c_dyadic_Sign : AFn := ⟨[(.tmp 2)],
  (.seq (.region false [⟨some 1, .box 3 (.t 0), none, false⟩,
 ⟨some 2, .mv (.c (.int .i64 0)), none, false⟩]) (.seq (.block 0 (.seq (.region false [⟨some 4, .load true 3 (.t 1), none, false⟩,
 ⟨some 5, .call (.f 51) [(.t 4)], none, false⟩,
 ⟨some 6, .un .not (.t 5), none, false⟩,
 ⟨some 7, .mv (.t 6), none, false⟩,
 ⟨some 8, .faddr 1 (.t 1), some (7, false), false⟩,
 ⟨some 9, .load false 1 (.t 8), some (7, false), false⟩,
 ⟨some 10, .len (.t 9), some (7, false), false⟩,
 ⟨some 11, .bin .num .eql (.t 10) (.c (.int .i64 0)), some (7, false), false⟩,
 ⟨some 12, .pick (.t 7) (.c (.bool true)) (.t 11), none, false⟩,
 ⟨some 3, .mv (.t 12), none, false⟩]) (.cond (.t 3) (.seq (.region false [⟨some 2, .mv (.c (.int .i64 0)), none, false⟩]) .ret) (.seq (.region false [⟨some 14, .faddr 0 (.t 1), none, false⟩,
 ⟨some 15, .load false 1 (.t 14), none, false⟩,
 ⟨some 13, .mv (.t 15), none, false⟩]) (.cond (.t 13) (.seq (.region false [⟨some 2, .mv (.c (.int .i64 (-1))), none, false⟩]) .ret) .skip))))) (.seq (.region false [⟨some 2, .mv (.c (.int .i64 1)), none, false⟩]) .ret))),
  false, false⟩

/- dyadic_compare -/
@[simp] def c_dyadic_compare : AFn := ⟨[(.tmp 4)],
  (.seq (.region false [⟨some 2, .box 3 (.t 0), none, false⟩,
 ⟨some 3, .box 3 (.t 1), none, false⟩,
 ⟨some 4, .mv (.c (.int .i64 0)), none, false⟩]) (.seq (.region true [⟨some 8, .load true 3 (.t 2), none, false⟩,
 ⟨some 9, .call (.f 98) [(.t 8)], none, false⟩,
 ⟨some 10, .load true 3 (.t 3), none, false⟩,
 ⟨some 11, .call (.f 98) [(.t 10)], none, true⟩,
 ⟨some 5, .mv (.t 9), none, false⟩,
 ⟨some 6, .mv (.t 11), none, false⟩]) (.seq (.block 0 (.seq (.region false [⟨some 13, .mv (.t 5), none, false⟩,
 ⟨some 14, .mv (.t 6), none, false⟩,
 ⟨some 15, .bin .num .lss (.t 13) (.t 14), none, false⟩,
 ⟨some 12, .mv (.t 15), none, false⟩]) (.cond (.t 12) (.seq (.region false [⟨some 4, .mv (.c (.int .i64 (-1))), none, false⟩]) .ret) (.seq (.region false [⟨some 17, .mv (.t 5), none, false⟩,
 ⟨some 18, .mv (.t 6), none, false⟩,
 ⟨some 19, .bin .num .gtr (.t 17) (.t 18), none, false⟩,
 ⟨some 16, .mv (.t 19), none, false⟩]) (.cond (.t 16) (.seq (.region false [⟨some 4, .mv (.c (.int .i64 1)), none, false⟩]) .ret) .skip))))) (.seq (.region false [⟨some 20, .faddr 2 (.t 2), none, false⟩,
 ⟨some 21, .load false 1 (.t 20), none, false⟩,
 ⟨some 22, .faddr 2 (.t 3), none, false⟩,
 ⟨some 23, .load false 1 (.t 22), none, false⟩,
 ⟨some 24, .min (.t 21) (.t 23), none, false⟩,
 ⟨some 7, .mv (.t 24), none, false⟩]) (.seq (.region true [⟨some 25, .faddr 1 (.t 2), none, false⟩,
 ⟨some 26, .load false 1 (.t 25), none, false⟩,
 ⟨some 27, .faddr 2 (.t 2), none, false⟩,
 ⟨some 28, .load false 1 (.t 27), none, false⟩,
 ⟨some 29, .mv (.t 7), none, false⟩,
 ⟨some 30, .bin .num .sub (.t 28) (.t 29), none, false⟩,
 ⟨some 31, .call (.f 100) [(.t 26), (.t 30)], none, false⟩,
 ⟨some 32, .faddr 1 (.t 3), none, false⟩,
 ⟨some 33, .load false 1 (.t 32), none, false⟩,
 ⟨some 34, .faddr 2 (.t 3), none, false⟩,
 ⟨some 35, .load false 1 (.t 34), none, false⟩,
 ⟨some 36, .mv (.t 7), none, false⟩,
 ⟨some 37, .bin .num .sub (.t 35) (.t 36), none, false⟩,
 ⟨some 38, .call (.f 100) [(.t 33), (.t 37)], none, true⟩,
 ⟨some 39, .call (.f 99) [(.t 31), (.t 38)], none, true⟩,
 ⟨some 4, .mv (.t 39), none, false⟩]) .ret))))),
  false, false⟩

/- interval_Inside -/
@[simp] def c_interval_Inside : AFn := ⟨[(.tmp 4)],
  (.seq (.region false [⟨some 2, .box 7 (.t 0), none, false⟩,
 ⟨some 3, .box 7 (.t 1), none, false⟩,
 ⟨some 4, .mv (.c (.bool false)), none, false⟩]) (.seq (.seq (.region false [⟨some 5, .load true 7 (.t 2), none, false⟩,
 ⟨some 6, .call (.f 77) [(.t 5)], none, false⟩,
 ⟨some 7, .un .not (.t 6), none, false⟩,
 ⟨some 8, .mv (.t 7), none, false⟩,
 ⟨some 9, .load true 7 (.t 3), some (8, false), false⟩,
 ⟨some 10, .call (.f 77) [(.t 9)], some (8, false), false⟩,
 ⟨some 11, .un .not (.t 10), some (8, false), false⟩,
 ⟨some 12, .pick (.t 8) (.c (.bool true)) (.t 11), none, false⟩]) (.cond (.t 12) (.seq (.region false [⟨some 4, .mv (.c (.bool false)), none, false⟩]) .ret) .skip)) (.seq (.region false [⟨some 13, .faddr 6 (.t 3), none, false⟩,
 ⟨some 14, .load false 1 (.t 13), none, false⟩,
 ⟨some 15, .mv (.t 14), none, false⟩,
 ⟨some 16, .faddr 6 (.t 2), some (15, false), false⟩,
 ⟨some 17, .load false 1 (.t 16), some (15, false), false⟩,
 ⟨some 18, .un .not (.t 17), some (15, false), false⟩,
 ⟨some 19, .mv (.t 18), some (15, false), false⟩,
 ⟨some 20, .faddr 0 (.t 3), some (19, true), false⟩,
 ⟨some 21, .load true 3 (.t 20), some (19, true), false⟩,
 ⟨some 22, .faddr 0 (.t 2), some (19, true), false⟩,
 ⟨some 23, .load true 3 (.t 22), some (19, true), false⟩,
 ⟨some 24, .call (.f 52) [(.t 21), (.t 23)], some (19, true), false⟩,
 ⟨some 25, .bin .num .leq (.t 24) (.c (.int .i64 0)), some (19, true), false⟩,
 ⟨some 26, .pick (.t 19) (.t 25) (.c (.bool false)), some (15, false), false⟩,
 ⟨some 27, .mv (.t 26), some (15, false), false⟩,
 ⟨some 28, .faddr 3 (.t 2), some (27, true), false⟩,
 ⟨some 29, .load true 3 (.t 28), some (27, true), false⟩,
 ⟨some 30, .faddr 3 (.t 3), some (27, true), false⟩,
 ⟨some 31, .load true 3 (.t 30), some (27, true), false⟩,
 ⟨some 32, .call (.f 52) [(.t 29), (.t 31)], some (27, true), false⟩,
 ⟨some 33, .bin .num .leq (.t 32) (.c (.int .i64 0)), some (27, true), false⟩,
 ⟨some 34, .pick (.t 27) (.t 33) (.c (.bool false)), some (15, false), false⟩,
 ⟨some 35, .pick (.t 15) (.c (.bool true)) (.t 34), none, false⟩,
 ⟨some 4, .mv (.t 35), none, false⟩]) .ret))),
  false, false⟩

/- fpref02_left -/
def c_fpref02_left_l0 : AC := (.seq (.seq (.region false [⟨some 12, .mv (.t 7), none, false⟩,
 ⟨some 13, .mv (.t 0), none, false⟩,
 ⟨some 14, .len (.t 13), none, false⟩,
 ⟨some 15, .bin .num .lss (.t 12) (.t 14), none, false⟩]) (.cond (.t 15) .skip (.exit 0))) (.seq (.block 1 (.seq (.region false [⟨some 18, .mv (.t 0), none, false⟩,
 ⟨some 19, .mv (.t 7), none, false⟩,
 ⟨some 20, .iaddr 1 (.t 18) (.t 19), none, false⟩,
 ⟨some 21, .load false 1 (.t 20), none, false⟩,
 ⟨some 22, .conv .u64 (.t 21), none, false⟩,
 ⟨some 23, .mv (.t 1), none, false⟩,
 ⟨some 24, .bin .num .rem (.t 23) (.c (.int .i64 32)), none, false⟩,
 ⟨some 25, .conv .u64 (.t 24), none, false⟩,
 ⟨some 26, .bin .num .shl (.t 22) (.t 25), none, false⟩,
 ⟨some 27, .mv (.t 6), none, false⟩,
 ⟨some 28, .bin .num .or (.t 26) (.t 27), none, false⟩,
 ⟨some 8, .mv (.t 28), none, false⟩]) (.seq (.region false [⟨some 29, .mv (.t 5), none, false⟩,
 ⟨some 30, .mv (.t 8), none, false⟩,
 ⟨some 31, .bin .num .and (.t 30) (.c (.int .u64 4294967295)), none, false⟩,
 ⟨some 32, .conv .u32 (.t 31), none, false⟩,
 ⟨some 33, .bslice 1 1 (.int .u32 0) [(0, (.t 32))], none, false⟩,
 ⟨some 34, .append 1 4 (.t 29) (.t 33), none, false⟩,
 ⟨some 5, .mv (.t 34), none, false⟩]) (.region false [⟨some 35, .mv (.t 8), none, false⟩,
 ⟨some 36, .bin .num .shr (.t 35) (.c (.int .u64 32)), none, false⟩,
 ⟨some 6, .mv (.t 36), none, false⟩])))) (.region false [⟨some 16, .mv (.t 7), none, false⟩,
 ⟨some 17, .bin .num .add (.t 16) (.c (.int .i64 1)), none, false⟩,
 ⟨some 7, .mv (.t 17), none, false⟩])))
@[simp] def c_fpref02_left : AFn := ⟨[(.tmp 4)],
  (.seq (.region false [⟨some 4, .mv (.c .nil), none, false⟩]) (.seq (.region false [⟨some 9, .mv (.t 1), none, false⟩,
 ⟨some 10, .bin .num .quo (.t 9) (.c (.int .i64 32)), none, false⟩,
 ⟨some 11, .mkslice 1 4 (.int .u32 0) (.t 10) (.t 10), none, false⟩,
 ⟨some 5, .mv (.t 11), none, false⟩]) (.seq (.region false [⟨some 6, .mv (.c (.int .u64 0)), none, false⟩]) (.seq (.seq (.region false [⟨some 7, .mv (.c (.int .i64 0)), none, false⟩]) (.block 0 (.loop c_fpref02_left_l0))) (.seq (.region false [⟨some 37, .mv (.t 5), none, false⟩,
 ⟨some 38, .mv (.t 6), none, false⟩,
 ⟨some 39, .conv .u32 (.t 38), none, false⟩,
 ⟨some 40, .bslice 1 1 (.int .u32 0) [(0, (.t 39))], none, false⟩,
 ⟨some 41, .append 1 4 (.t 37) (.t 40), none, false⟩,
 ⟨some 42, .call (.f 101) [(.t 41)], none, false⟩,
 ⟨some 4, .mv (.t 42), none, false⟩]) .ret))))),
  false, false⟩

/- fpref02_Of -/
@[simp] def c_fpref02_Of : AFn := ⟨[(.cell 6 true 3)],
  (.seq (.region false [⟨some 6, .new 3 (.agg [(.bool false), .nil, (.int .i64 0)]), none, false⟩]) (.seq (.region false [⟨some 8, .mv (.t 1), none, false⟩,
 ⟨some 9, .call (.f 101) [(.t 8)], none, false⟩,
 ⟨some 1, .mv (.t 9), none, false⟩]) (.seq (.seq (.region false [⟨some 10, .mv (.t 1), none, false⟩,
 ⟨some 11, .len (.t 10), none, false⟩,
 ⟨some 12, .bin .num .eql (.t 11) (.c (.int .i64 0)), none, false⟩]) (.cond (.t 12) (.seq (.region false [⟨some 13, .build [(.bool false), .nil, (.int .i64 0)] [], none, false⟩,
 ⟨none, .store 3 (.t 6) (.t 13), none, false⟩]) .ret) .skip)) (.seq (.region false [⟨some 14, .mv (.t 1), none, false⟩,
 ⟨some 15, .call (.f 102) [(.t 14)], none, false⟩,
 ⟨some 7, .mv (.t 15), none, false⟩]) (.seq (.region false [⟨some 16, .mv (.t 0), none, false⟩,
 ⟨some 17, .mv (.t 1), none, false⟩,
 ⟨some 18, .mv (.t 7), none, false⟩,
 ⟨some 19, .call (.f 103) [(.t 17), (.t 18)], none, false⟩,
 ⟨some 20, .mv (.t 2), none, false⟩,
 ⟨some 21, .mv (.t 7), none, false⟩,
 ⟨some 22, .bin .num .add (.t 20) (.t 21), none, false⟩,
 ⟨some 23, .build [(.bool false), .nil, (.int .i64 0)] [(0, 1, (.t 16)), (1, 1, (.t 19)), (2, 1, (.t 22))], none, false⟩,
 ⟨none, .store 3 (.t 6) (.t 23), none, false⟩]) .ret))))),
  false, false⟩

/- fpref02_plus -/
def c_fpref02_plus_l0 : AC := (.seq (.seq (.region false [⟨some 9, .mv (.t 7), none, false⟩,
 ⟨some 10, .mv (.t 0), none, false⟩,
 ⟨some 11, .len (.t 10), none, false⟩,
 ⟨some 12, .bin .num .lss (.t 9) (.t 11), none, false⟩,
 ⟨some 13, .mv (.t 12), none, false⟩,
 ⟨some 14, .mv (.t 7), some (13, false), false⟩,
 ⟨some 15, .mv (.t 1), some (13, false), false⟩,
 ⟨some 16, .len (.t 15), some (13, false), false⟩,
 ⟨some 17, .bin .num .lss (.t 14) (.t 16), some (13, false), false⟩,
 ⟨some 18, .pick (.t 13) (.c (.bool true)) (.t 17), none, false⟩]) (.cond (.t 18) .skip (.exit 0))) (.seq (.block 1 (.seq (.region false [⟨some 21, .mv (.t 6), none, false⟩,
 ⟨some 8, .mv (.t 21), none, false⟩]) (.seq (.seq (.region false [⟨some 22, .mv (.t 7), none, false⟩,
 ⟨some 23, .mv (.t 0), none, false⟩,
 ⟨some 24, .len (.t 23), none, false⟩,
 ⟨some 25, .bin .num .lss (.t 22) (.t 24), none, false⟩]) (.cond (.t 25) (.region false [⟨some 26, .mv (.t 8), none, false⟩,
 ⟨some 27, .mv (.t 0), none, false⟩,
 ⟨some 28, .mv (.t 7), none, false⟩,
 ⟨some 29, .iaddr 1 (.t 27) (.t 28), none, false⟩,
 ⟨some 30, .load false 1 (.t 29), none, false⟩,
 ⟨some 31, .conv .u64 (.t 30), none, false⟩,
 ⟨some 32, .bin .num .add (.t 26) (.t 31), none, false⟩,
 ⟨some 8, .mv (.t 32), none, false⟩]) .skip)) (.seq (.seq (.region false [⟨some 33, .mv (.t 7), none, false⟩,
 ⟨some 34, .mv (.t 1), none, false⟩,
 ⟨some 35, .len (.t 34), none, false⟩,
 ⟨some 36, .bin .num .lss (.t 33) (.t 35), none, false⟩]) (.cond (.t 36) (.region false [⟨some 37, .mv (.t 8), none, false⟩,
 ⟨some 38, .mv (.t 1), none, false⟩,
 ⟨some 39, .mv (.t 7), none, false⟩,
 ⟨some 40, .iaddr 1 (.t 38) (.t 39), none, false⟩,
 ⟨some 41, .load false 1 (.t 40), none, false⟩,
 ⟨some 42, .conv .u64 (.t 41), none, false⟩,
 ⟨some 43, .bin .num .add (.t 37) (.t 42), none, false⟩,
 ⟨some 8, .mv (.t 43), none, false⟩]) .skip)) (.seq (.region false [⟨some 44, .mv (.t 5), none, false⟩,
 ⟨some 45, .mv (.t 8), none, false⟩,
 ⟨some 46, .bin .num .and (.t 45) (.c (.int .u64 4294967295)), none, false⟩,
 ⟨some 47, .conv .u32 (.t 46), none, false⟩,
 ⟨some 48, .bslice 1 1 (.int .u32 0) [(0, (.t 47))], none, false⟩,
 ⟨some 49, .append 1 4 (.t 44) (.t 48), none, false⟩,
 ⟨some 5, .mv (.t 49), none, false⟩]) (.region false [⟨some 50, .mv (.t 8), none, false⟩,
 ⟨some 51, .bin .num .shr (.t 50) (.c (.int .u64 32)), none, false⟩,
 ⟨some 6, .mv (.t 51), none, false⟩])))))) (.region false [⟨some 19, .mv (.t 7), none, false⟩,
 ⟨some 20, .bin .num .add (.t 19) (.c (.int .i64 1)), none, false⟩,
 ⟨some 7, .mv (.t 20), none, false⟩])))
@[simp] def c_fpref02_plus : AFn := ⟨[(.tmp 4)],
  (.seq (.region false [⟨some 4, .mv (.c .nil), none, false⟩]) (.seq (.region false [⟨some 5, .mv (.c .nil), none, false⟩]) (.seq (.region false [⟨some 6, .mv (.c (.int .u64 0)), none, false⟩]) (.seq (.seq (.region false [⟨some 7, .mv (.c (.int .i64 0)), none, false⟩]) (.block 0 (.loop c_fpref02_plus_l0))) (.seq (.region false [⟨some 52, .mv (.t 5), none, false⟩,
 ⟨some 53, .mv (.t 6), none, false⟩,
 ⟨some 54, .conv .u32 (.t 53), none, false⟩,
 ⟨some 55, .bslice 1 1 (.int .u32 0) [(0, (.t 54))], none, false⟩,
 ⟨some 56, .append 1 4 (.t 52) (.t 55), none, false⟩,
 ⟨some 57, .call (.f 101) [(.t 56)], none, false⟩,
 ⟨some 4, .mv (.t 57), none, false⟩]) .ret))))),
  false, false⟩

/- fpref02_minus -/
def c_fpref02_minus_l0 : AC := (.seq (.seq (.region false [⟨some 10, .mv (.t 7), none, false⟩,
 ⟨some 11, .mv (.t 0), none, false⟩,
 ⟨some 12, .len (.t 11), none, false⟩,
 ⟨some 13, .bin .num .lss (.t 10) (.t 12), none, false⟩]) (.cond (.t 13) .skip (.exit 0))) (.seq (.block 1 (.seq (.region false [⟨some 16, .mv (.t 6), none, false⟩,
 ⟨some 8, .mv (.t 16), none, false⟩]) (.seq (.seq (.region false [⟨some 17, .mv (.t 7), none, false⟩,
 ⟨some 18, .mv (.t 1), none, false⟩,
 ⟨some 19, .len (.t 18), none, false⟩,
 ⟨some 20, .bin .num .lss (.t 17) (.t 19), none, false⟩]) (.cond (.t 20) (.region false [⟨some 21, .mv (.t 8), none, false⟩,
 ⟨some 22, .mv (.t 1), none, false⟩,
 ⟨some 23, .mv (.t 7), none, false⟩,
 ⟨some 24, .iaddr 1 (.t 22) (.t 23), none, false⟩,
 ⟨some 25, .load false 1 (.t 24), none, false⟩,
 ⟨some 26, .conv .u64 (.t 25), none, false⟩,
 ⟨some 27, .bin .num .add (.t 21) (.t 26), none, false⟩,
 ⟨some 8, .mv (.t 27), none, false⟩]) .skip)) (.seq (.region false [⟨some 28, .mv (.t 0), none, false⟩,
 ⟨some 29, .mv (.t 7), none, false⟩,
 ⟨some 30, .iaddr 1 (.t 28) (.t 29), none, false⟩,
 ⟨some 31, .load false 1 (.t 30), none, false⟩,
 ⟨some 32, .conv .u64 (.t 31), none, false⟩,
 ⟨some 33, .bin .num .add (.t 32) (.c (.int .u64 4294967296)), none, false⟩,
 ⟨some 34, .mv (.t 8), none, false⟩,
 ⟨some 35, .bin .num .sub (.t 33) (.t 34), none, false⟩,
 ⟨some 9, .mv (.t 35), none, false⟩]) (.seq (.region false [⟨some 36, .mv (.t 5), none, false⟩,
 ⟨some 37, .mv (.t 9), none, false⟩,
 ⟨some 38, .bin .num .and (.t 37) (.c (.int .u64 4294967295)), none, false⟩,
 ⟨some 39, .conv .u32 (.t 38), none, false⟩,
 ⟨some 40, .bslice 1 1 (.int .u32 0) [(0, (.t 39))], none, false⟩,
 ⟨some 41, .append 1 4 (.t 36) (.t 40), none, false⟩,
 ⟨some 5, .mv (.t 41), none, false⟩]) (.region false [⟨some 42, .mv (.t 9), none, false⟩,
 ⟨some 43, .bin .num .shr (.t 42) (.c (.int .u64 32)), none, false⟩,
 ⟨some 44, .bin .num .sub (.c (.int .u64 1)) (.t 43), none, false⟩,
 ⟨some 6, .mv (.t 44), none, false⟩])))))) (.region false [⟨some 14, .mv (.t 7), none, false⟩,
 ⟨some 15, .bin .num .add (.t 14) (.c (.int .i64 1)), none, false⟩,
 ⟨some 7, .mv (.t 15), none, false⟩])))
@[simp] def c_fpref02_minus : AFn := ⟨[(.tmp 4)],
  (.seq (.region false [⟨some 4, .mv (.c .nil), none, false⟩]) (.seq (.region false [⟨some 5, .mv (.c .nil), none, false⟩]) (.seq (.region false [⟨some 6, .mv (.c (.int .u64 0)), none, false⟩]) (.seq (.seq (.region false [⟨some 7, .mv (.c (.int .i64 0)), none, false⟩]) (.block 0 (.loop c_fpref02_minus_l0))) (.seq (.region false [⟨some 45, .mv (.t 5), none, false⟩,
 ⟨some 46, .call (.f 101) [(.t 45)], none, false⟩,
 ⟨some 4, .mv (.t 46), none, false⟩]) .ret))))),
  false, false⟩

/- interval_Meet -/
@[simp] def c_interval_Meet : AFn := ⟨[(.cell 4 true 7), (.tmp 5)],
  (.seq (.region false [⟨some 2, .box 7 (.t 0), none, false⟩,
 ⟨some 3, .box 7 (.t 1), none, false⟩,
 ⟨some 4, .new 7 (.agg [(.bool false), .nil, (.int .i64 0), (.bool false), .nil, (.int .i64 0), (.bool false)]), none, false⟩,
 ⟨some 5, .mv (.c (.bool false)), none, false⟩]) (.seq (.block 0 (.seq (.region false [⟨some 8, .load true 7 (.t 2), none, false⟩,
 ⟨some 9, .call (.f 77) [(.t 8)], none, false⟩,
 ⟨some 10, .un .not (.t 9), none, false⟩,
 ⟨some 11, .mv (.t 10), none, false⟩,
 ⟨some 12, .load true 7 (.t 3), some (11, false), false⟩,
 ⟨some 13, .call (.f 77) [(.t 12)], some (11, false), false⟩,
 ⟨some 14, .un .not (.t 13), some (11, false), false⟩,
 ⟨some 15, .pick (.t 11) (.c (.bool true)) (.t 14), none, false⟩,
 ⟨some 7, .mv (.t 15), none, false⟩]) (.cond (.t 7) (.seq (.region false [⟨some 16, .build [(.bool false), .nil, (.int .i64 0), (.bool false), .nil, (.int .i64 0), (.bool false)] [], none, false⟩,
 ⟨none, .store 7 (.t 4) (.t 16), none, false⟩,
 ⟨some 5, .mv (.c (.bool false)), none, false⟩]) .ret) (.seq (.region false [⟨some 18, .faddr 6 (.t 2), none, false⟩,
 ⟨some 19, .load false 1 (.t 18), none, false⟩,
 ⟨some 17, .mv (.t 19), none, false⟩]) (.cond (.t 17) (.seq (.region false [⟨some 20, .load true 7 (.t 3), none, false⟩,
 ⟨none, .store 7 (.t 4) (.t 20), none, false⟩,
 ⟨some 5, .mv (.c (.bool true)), none, false⟩]) .ret) (.seq (.region false [⟨some 22, .faddr 6 (.t 3), none, false⟩,
 ⟨some 23, .load false 1 (.t 22), none, false⟩,
 ⟨some 21, .mv (.t 23), none, false⟩]) (.cond (.t 21) (.seq (.region false [⟨some 24, .load true 7 (.t 2), none, false⟩,
 ⟨none, .store 7 (.t 4) (.t 24), none, false⟩,
 ⟨some 5, .mv (.c (.bool true)), none, false⟩]) .ret) .skip))))))) (.seq (.region true [⟨some 25, .faddr 0 (.t 2), none, false⟩,
 ⟨some 26, .load true 3 (.t 25), none, false⟩,
 ⟨some 27, .faddr 0 (.t 3), none, false⟩,
 ⟨some 28, .load true 3 (.t 27), none, false⟩,
 ⟨some 29, .call (.f 104) [(.t 26), (.t 28)], none, false⟩,
 ⟨some 30, .faddr 3 (.t 2), none, false⟩,
 ⟨some 31, .load true 3 (.t 30), none, false⟩,
 ⟨some 32, .faddr 3 (.t 3), none, false⟩,
 ⟨some 33, .load true 3 (.t 32), none, false⟩,
 ⟨some 34, .call (.f 105) [(.t 31), (.t 33)], none, false⟩,
 ⟨some 35, .build [(.bool false), .nil, (.int .i64 0), (.bool false), .nil, (.int .i64 0), (.bool false)] [(0, 3, (.t 29)), (3, 3, (.t 34))], none, false⟩,
 ⟨some 6, .new 7 (.agg [(.bool false), .nil, (.int .i64 0), (.bool false), .nil, (.int .i64 0), (.bool false)]), none, false⟩,
 ⟨none, .store 7 (.t 6) (.t 35), none, true⟩]) (.seq (.seq (.region false [⟨some 36, .faddr 0 (.t 6), none, false⟩,
 ⟨some 37, .load true 3 (.t 36), none, false⟩,
 ⟨some 38, .faddr 3 (.t 6), none, false⟩,
 ⟨some 39, .load true 3 (.t 38), none, false⟩,
 ⟨some 40, .call (.f 52) [(.t 37), (.t 39)], none, false⟩,
 ⟨some 41, .bin .num .gtr (.t 40) (.c (.int .i64 0)), none, false⟩]) (.cond (.t 41) (.seq (.region false [⟨some 42, .build [(.bool false), .nil, (.int .i64 0), (.bool false), .nil, (.int .i64 0), (.bool false)] [], none, false⟩,
 ⟨none, .store 7 (.t 4) (.t 42), none, false⟩,
 ⟨some 5, .mv (.c (.bool false)), none, false⟩]) .ret) .skip)) (.seq (.region false [⟨some 43, .load true 7 (.t 6), none, false⟩,
 ⟨none, .store 7 (.t 4) (.t 43), none, false⟩,
 ⟨some 5, .mv (.c (.bool true)), none, false⟩]) .ret))))),
  false, false⟩

/- fpref05_zero -/
@[simp] def c_fpref05_zero : AFn := ⟨[(.tmp 2)],
  (.seq (.region false [⟨some 1, .box 3 (.t 0), none, false⟩,
 ⟨some 2, .mv (.c (.bool false)), none, false⟩]) (.seq (.region false [⟨some 3, .faddr 0 (.t 1), none, false⟩,
 ⟨some 4, .load false 1 (.t 3), none, false⟩,
 ⟨some 5, .un .not (.t 4), none, false⟩,
 ⟨some 6, .mv (.t 5), none, false⟩,
 ⟨some 7, .faddr 1 (.t 1), some (6, true), false⟩,
 ⟨some 8, .load false 1 (.t 7), some (6, true), false⟩,
 ⟨some 9, .len (.t 8), some (6, true), false⟩,
 ⟨some 10, .bin .num .eql (.t 9) (.c (.int .i64 0)), some (6, true), false⟩,
 ⟨some 11, .pick (.t 6) (.t 10) (.c (.bool false)), none, false⟩,
 ⟨some 12, .mv (.t 11), none, false⟩,
 ⟨some 13, .faddr 2 (.t 1), some (12, true), false⟩,
 ⟨some 14, .load false 1 (.t 13), some (12, true), false⟩,
 ⟨some 15, .bin .num .eql (.t 14) (.c (.int .i64 0)), some (12, true), false⟩,
 ⟨some 16, .pick (.t 12) (.t 15) (.c (.bool false)), none, false⟩,
 ⟨some 2, .mv (.t 16), none, false⟩]) .ret)),
  false, false⟩

/- fpref05_most -/
@[simp] def c_fpref05_most : AFn := ⟨[(.cell 4 true 3)],
  (.seq (.region false [⟨some 2, .box 3 (.t 0), none, false⟩,
 ⟨some 3, .box 3 (.t 1), none, false⟩,
 ⟨some 4, .new 3 (.agg [(.bool false), .nil, (.int .i64 0)]), none, false⟩]) (.seq (.seq (.region false [⟨some 5, .load true 3 (.t 2), none, false⟩,
 ⟨some 6, .load true 3 (.t 3), none, false⟩,
 ⟨some 7, .call (.f 18) [(.t 5), (.t 6)], none, false⟩,
 ⟨some 8, .bin .num .geq (.t 7) (.c (.int .i64 0)), none, false⟩]) (.cond (.t 8) (.seq (.region false [⟨some 9, .load true 3 (.t 2), none, false⟩,
 ⟨none, .store 3 (.t 4) (.t 9), none, false⟩]) .ret) .skip)) (.seq (.region false [⟨some 10, .load true 3 (.t 3), none, false⟩,
 ⟨none, .store 3 (.t 4) (.t 10), none, false⟩]) .ret))),
  false, false⟩

/- fpref05_least -/
@[simp] def c_fpref05_least : AFn := ⟨[(.cell 4 true 3)],
  (.seq (.region false [⟨some 2, .box 3 (.t 0), none, false⟩,
 ⟨some 3, .box 3 (.t 1), none, false⟩,
 ⟨some 4, .new 3 (.agg [(.bool false), .nil, (.int .i64 0)]), none, false⟩]) (.seq (.seq (.region false [⟨some 5, .load true 3 (.t 2), none, false⟩,
 ⟨some 6, .load true 3 (.t 3), none, false⟩,
 ⟨some 7, .call (.f 18) [(.t 5), (.t 6)], none, false⟩,
 ⟨some 8, .bin .num .leq (.t 7) (.c (.int .i64 0)), none, false⟩]) (.cond (.t 8) (.seq (.region false [⟨some 9, .load true 3 (.t 2), none, false⟩,
 ⟨none, .store 3 (.t 4) (.t 9), none, false⟩]) .ret) .skip)) (.seq (.region false [⟨some 10, .load true 3 (.t 3), none, false⟩,
 ⟨none, .store 3 (.t 4) (.t 10), none, false⟩]) .ret))),
  false, false⟩

/- interval_Hull -/
@[simp] def c_interval_Hull : AFn := ⟨[(.cell 4 true 7)],
  (.seq (.region false [⟨some 2, .box 7 (.t 0), none, false⟩,
 ⟨some 3, .box 7 (.t 1), none, false⟩,
 ⟨some 4, .new 7 (.agg [(.bool false), .nil, (.int .i64 0), (.bool false), .nil, (.int .i64 0), (.bool false)]), none, false⟩]) (.seq (.seq (.region false [⟨some 5, .load true 7 (.t 2), none, false⟩,
 ⟨some 6, .load true 7 (.t 3), none, false⟩,
 ⟨some 7, .bslice 7 2 (.agg [(.bool false), .nil, (.int .i64 0), (.bool false), .nil, (.int .i64 0), (.bool false)]) [(0, (.t 5)), (1, (.t 6))], none, false⟩,
 ⟨some 8, .call (.f 106) [(.t 7)], none, false⟩,
 ⟨some 9, .un .not (.t 8), none, false⟩]) (.cond (.t 9) (.seq (.region false [⟨some 10, .call (.f 107) [], none, false⟩,
 ⟨none, .store 7 (.t 4) (.t 10), none, false⟩]) .ret) .skip)) (.seq (.region true [⟨some 11, .faddr 0 (.t 2), none, false⟩,
 ⟨some 12, .load true 3 (.t 11), none, false⟩,
 ⟨some 13, .faddr 0 (.t 3), none, false⟩,
 ⟨some 14, .load true 3 (.t 13), none, false⟩,
 ⟨some 15, .call (.f 105) [(.t 12), (.t 14)], none, false⟩,
 ⟨some 16, .faddr 3 (.t 2), none, false⟩,
 ⟨some 17, .load true 3 (.t 16), none, false⟩,
 ⟨some 18, .faddr 3 (.t 3), none, false⟩,
 ⟨some 19, .load true 3 (.t 18), none, false⟩,
 ⟨some 20, .call (.f 104) [(.t 17), (.t 19)], none, true⟩,
 ⟨some 21, .build [(.bool false), .nil, (.int .i64 0), (.bool false), .nil, (.int .i64 0), (.bool false)] [(0, 3, (.t 15)), (3, 3, (.t 20))], none, false⟩,
 ⟨none, .store 7 (.t 4) (.t 21), none, true⟩]) .ret))),
  false, false⟩

/- fpref05_Hull -/
@[simp] def c_fpref05_Hull : AFn := ⟨[(.cell 4 true 7)],
  (.seq (.region false [⟨some 2, .box 7 (.t 0), none, false⟩,
 ⟨some 3, .box 7 (.t 1), none, false⟩,
 ⟨some 4, .new 7 (.agg [(.bool false), .nil, (.int .i64 0), (.bool false), .nil, (.int .i64 0), (.bool false)]), none, false⟩]) (.seq (.seq (.region false [⟨some 5, .load true 7 (.t 2), none, false⟩,
 ⟨some 6, .call (.f 108) [(.t 5)], none, false⟩,
 ⟨some 7, .un .not (.t 6), none, false⟩,
 ⟨some 8, .mv (.t 7), none, false⟩,
 ⟨some 9, .load true 7 (.t 3), some (8, false), false⟩,
 ⟨some 10, .call (.f 108) [(.t 9)], some (8, false), false⟩,
 ⟨some 11, .un .not (.t 10), some (8, false), false⟩,
 ⟨some 12, .pick (.t 8) (.c (.bool true)) (.t 11), none, false⟩]) (.cond (.t 12) (.seq (.region false [⟨some 13, .call (.f 109) [], none, false⟩,
 ⟨none, .store 7 (.t 4) (.t 13), none, false⟩]) .ret) .skip)) (.seq (.region true [⟨some 14, .faddr 0 (.t 2), none, false⟩,
 ⟨some 15, .load true 3 (.t 14), none, false⟩,
 ⟨some 16, .faddr 0 (.t 3), none, false⟩,
 ⟨some 17, .load true 3 (.t 16), none, false⟩,
 ⟨some 18, .call (.f 93) [(.t 15), (.t 17)], none, false⟩,
 ⟨some 19, .faddr 3 (.t 2), none, false⟩,
 ⟨some 20, .load true 3 (.t 19), none, false⟩,
 ⟨some 21, .faddr 3 (.t 3), none, false⟩,
 ⟨some 22, .load true 3 (.t 21), none, false⟩,
 ⟨some 23, .call (.f 92) [(.t 20), (.t 22)], none, true⟩,
 ⟨some 24, .build [(.bool false), .nil, (.int .i64 0), (.bool false), .nil, (.int .i64 0), (.bool false)] [(0, 3, (.t 18)), (3, 3, (.t 23))], none, false⟩,
 ⟨none, .store 7 (.t 4) (.t 24), none, true⟩]) .ret))),
  false, false⟩

/- interval_Valid_1 -/
@[simp] def c_interval_Valid_1 : AFn := ⟨[(.tmp 2)],
  (.seq (.region false [⟨some 1, .box 3 (.t 0), none, false⟩,
 ⟨some 2, .mv (.c (.bool false)), none, false⟩]) (.seq (.region false [⟨some 3, .faddr 0 (.t 1), none, false⟩,
 ⟨some 4, .load false 1 (.t 3), none, false⟩,
 ⟨some 5, .un .not (.t 4), none, false⟩,
 ⟨some 6, .mv (.t 5), none, false⟩,
 ⟨some 7, .faddr 1 (.t 1), some (6, true), false⟩,
 ⟨some 8, .load false 1 (.t 7), some (6, true), false⟩,
 ⟨some 9, .len (.t 8), some (6, true), false⟩,
 ⟨some 10, .bin .num .eql (.t 9) (.c (.int .i64 0)), some (6, true), false⟩,
 ⟨some 11, .pick (.t 6) (.t 10) (.c (.bool false)), none, false⟩,
 ⟨some 12, .mv (.t 11), none, false⟩,
 ⟨some 13, .faddr 2 (.t 1), some (12, true), false⟩,
 ⟨some 14, .load false 1 (.t 13), some (12, true), false⟩,
 ⟨some 15, .bin .num .eql (.t 14) (.c (.int .i64 0)), some (12, true), false⟩,
 ⟨some 16, .pick (.t 12) (.t 15) (.c (.bool false)), none, false⟩,
 ⟨some 2, .mv (.t 16), none, false⟩]) .ret)),
  false, false⟩

/- dyadic_size -/
@[simp] def c_dyadic_size : AFn := ⟨[(.tmp 2)],
  (.seq (.region false [⟨some 2, .mv (.c (.int .i64 0)), none, false⟩]) (.seq (.region false [⟨some 3, .mv (.t 0), none, false⟩,
 ⟨some 4, .call (.f 110) [(.t 3)], none, false⟩,
 ⟨some 2, .mv (.t 4), none, false⟩]) .ret)),
  false, false⟩

/- dyadic_Top -/
@[simp] def c_dyadic_Top : AFn := ⟨[(.tmp 2)],
  (.seq (.region false [⟨some 1, .box 3 (.t 0), none, false⟩,
 ⟨some 2, .mv (.c (.int .i64 0)), none, false⟩]) (.seq (.seq (.region false [⟨some 3, .load true 3 (.t 1), none, false⟩,
 ⟨some 4, .call (.f 51) [(.t 3)], none, false⟩,
 ⟨some 5, .un .not (.t 4), none, false⟩,
 ⟨some 6, .mv (.t 5), none, false⟩,
 ⟨some 7, .faddr 1 (.t 1), some (6, false), false⟩,
 ⟨some 8, .load false 1 (.t 7), some (6, false), false⟩,
 ⟨some 9, .len (.t 8), some (6, false), false⟩,
 ⟨some 10, .bin .num .eql (.t 9) (.c (.int .i64 0)), some (6, false), false⟩,
 ⟨some 11, .pick (.t 6) (.c (.bool true)) (.t 10), none, false⟩]) (.cond (.t 11) (.seq (.region false [⟨some 2, .mv (.c (.int .i64 0)), none, false⟩]) .ret) .skip)) (.seq (.region true [⟨some 12, .faddr 1 (.t 1), none, false⟩,
 ⟨some 13, .load false 1 (.t 12), none, false⟩,
 ⟨some 14, .call (.f 97) [(.t 13)], none, false⟩,
 ⟨some 15, .faddr 2 (.t 1), none, false⟩,
 ⟨some 16, .load false 1 (.t 15), none, false⟩,
 ⟨some 17, .bin .num .add (.t 14) (.t 16), none, false⟩,
 ⟨some 2, .mv (.t 17), none, false⟩]) .ret))),
  false, false⟩

/- natural_Cmp -/
def c_natural_Cmp_l0 : AC := (.seq (.seq (.region false [⟨some 23, .mv (.t 5), none, false⟩,
 ⟨some 24, .bin .num .geq (.t 23) (.c (.int .i64 0)), none, false⟩]) (.cond (.t 24) .skip (.exit 0))) (.seq (.block 1 (.block 2 (.seq (.region true [⟨some 28, .mv (.t 0), none, false⟩,
 ⟨some 29, .mv (.t 5), none, false⟩,
 ⟨some 30, .iaddr 1 (.t 28) (.t 29), none, false⟩,
 ⟨some 31, .load false 1 (.t 30), none, false⟩,
 ⟨some 32, .mv (.t 1), none, false⟩,
 ⟨some 33, .mv (.t 5), none, false⟩,
 ⟨some 34, .iaddr 1 (.t 32) (.t 33), none, false⟩,
 ⟨some 35, .load false 1 (.t 34), none, false⟩,
 ⟨some 36, .bin .num .lss (.t 31) (.t 35), none, false⟩,
 ⟨some 27, .mv (.t 36), none, false⟩]) (.cond (.t 27) (.seq (.region false [⟨some 4, .mv (.c (.int .i64 (-1))), none, false⟩]) .ret) (.seq (.region true [⟨some 38, .mv (.t 0), none, false⟩,
 ⟨some 39, .mv (.t 5), none, false⟩,
 ⟨some 40, .iaddr 1 (.t 38) (.t 39), none, false⟩,
 ⟨some 41, .load false 1 (.t 40), none, false⟩,
 ⟨some 42, .mv (.t 1), none, false⟩,
 ⟨some 43, .mv (.t 5), none, false⟩,
 ⟨some 44, .iaddr 1 (.t 42) (.t 43), none, false⟩,
 ⟨some 45, .load false 1 (.t 44), none, false⟩,
 ⟨some 46, .bin .num .gtr (.t 41) (.t 45), none, false⟩,
 ⟨some 37, .mv (.t 46), none, false⟩]) (.cond (.t 37) (.seq (.region false [⟨some 4, .mv (.c (.int .i64 1)), none, false⟩]) .ret) .skip)))))) (.region false [⟨some 25, .mv (.t 5), none, false⟩,
 ⟨some 26, .bin .num .sub (.t 25) (.c (.int .i64 1)), none, false⟩,
 ⟨some 5, .mv (.t 26), none, false⟩])))
@[simp] def c_natural_Cmp : AFn := ⟨[(.tmp 4)],
  (.seq (.region false [⟨some 4, .mv (.c (.int .i64 0)), none, false⟩]) (.seq (.region false [⟨some 6, .mv (.t 0), none, false⟩,
 ⟨some 7, .call (.f 111) [(.t 6)], none, false⟩,
 ⟨some 8, .mv (.t 1), none, false⟩,
 ⟨some 9, .call (.f 111) [(.t 8)], none, false⟩,
 ⟨some 0, .mv (.t 7), none, false⟩,
 ⟨some 1, .mv (.t 9), none, false⟩]) (.seq (.seq (.region false [⟨some 10, .mv (.t 0), none, false⟩,
 ⟨some 11, .len (.t 10), none, false⟩,
 ⟨some 12, .mv (.t 1), none, false⟩,
 ⟨some 13, .len (.t 12), none, false⟩,
 ⟨some 14, .bin .num .neq (.t 11) (.t 13), none, false⟩]) (.cond (.t 14) (.seq (.seq (.region false [⟨some 15, .mv (.t 0), none, false⟩,
 ⟨some 16, .len (.t 15), none, false⟩,
 ⟨some 17, .mv (.t 1), none, false⟩,
 ⟨some 18, .len (.t 17), none, false⟩,
 ⟨some 19, .bin .num .lss (.t 16) (.t 18), none, false⟩]) (.cond (.t 19) (.seq (.region false [⟨some 4, .mv (.c (.int .i64 (-1))), none, false⟩]) .ret) .skip)) (.seq (.region false [⟨some 4, .mv (.c (.int .i64 1)), none, false⟩]) .ret)) .skip)) (.seq (.seq (.region false [⟨some 20, .mv (.t 0), none, false⟩,
 ⟨some 21, .len (.t 20), none, false⟩,
 ⟨some 22, .bin .num .sub (.t 21) (.c (.int .i64 1)), none, false⟩,
 ⟨some 5, .mv (.t 22), none, false⟩]) (.block 0 (.loop c_natural_Cmp_l0))) (.seq (.region false [⟨some 4, .mv (.c (.int .i64 0)), none, false⟩]) .ret))))),
  false, false⟩

/- dyadic_shifted -/
@[simp] def c_dyadic_shifted : AFn := ⟨[(.tmp 4)],
  (.seq (.region false [⟨some 4, .mv (.c .nil), none, false⟩]) (.seq (.region false [⟨some 8, .mv (.t 0), none, false⟩,
 ⟨some 9, .mv (.t 1), none, false⟩,
 ⟨some 10, .call (.f 112) [(.t 8), (.t 9)], none, false⟩,
 ⟨some 7, .mv (.t 10), none, false⟩,
 ⟨some 11, .extract 0 (.t 7), none, false⟩,
 ⟨some 12, .extract 1 (.t 7), none, false⟩,
 ⟨some 5, .mv (.t 11), none, false⟩,
 ⟨some 6, .mv (.t 12), none, false⟩]) (.seq (.region false [⟨some 13, .mv (.t 5), none, false⟩,
 ⟨some 4, .mv (.t 13), none, false⟩]) .ret))),
  false, false⟩

/- fpref02_trim -/
def c_fpref02_trim_l0 : AC := (.seq (.seq (.region false [⟨some 6, .mv (.t 3), none, false⟩,
 ⟨some 7, .bin .num .gtr (.t 6) (.c (.int .i64 0)), none, false⟩,
 ⟨some 8, .mv (.t 7), none, false⟩,
 ⟨some 9, .mv (.t 0), some (8, true), false⟩,
 ⟨some 10, .mv (.t 3), some (8, true), false⟩,
 ⟨some 11, .bin .num .sub (.t 10) (.c (.int .i64 1)), some (8, true), false⟩,
 ⟨some 12, .iaddr 1 (.t 9) (.t 11), some (8, true), false⟩,
 ⟨some 13, .load false 1 (.t 12), some (8, true), false⟩,
 ⟨some 14, .bin .num .eql (.t 13) (.c (.int .u32 0)), some (8, true), false⟩,
 ⟨some 15, .pick (.t 8) (.t 14) (.c (.bool false)), none, false⟩]) (.cond (.t 15) .skip (.exit 0))) (.block 1 (.region false [⟨some 16, .mv (.t 3), none, false⟩,
 ⟨some 17, .bin .num .sub (.t 16) (.c (.int .i64 1)), none, false⟩,
 ⟨some 3, .mv (.t 17), none, false⟩])))
@[simp] def c_fpref02_trim : AFn := ⟨[(.tmp 2)],
  (.seq (.region false [⟨some 2, .mv (.c .nil), none, false⟩]) (.seq (.region false [⟨some 4, .mv (.t 0), none, false⟩,
 ⟨some 5, .len (.t 4), none, false⟩,
 ⟨some 3, .mv (.t 5), none, false⟩]) (.seq (.block 0 (.loop c_fpref02_trim_l0)) (.seq (.region false [⟨some 18, .bslice 1 0 (.int .u32 0) [], none, false⟩,
 ⟨some 19, .mv (.t 0), none, false⟩,
 ⟨some 20, .mv (.t 3), none, false⟩,
 ⟨some 21, .slice 1 (.t 19) none (some (.t 20)) none, none, false⟩,
 ⟨some 22, .append 1 4 (.t 18) (.t 21), none, false⟩,
 ⟨some 2, .mv (.t 22), none, false⟩]) .ret)))),
  false, false⟩

/- fpref02_zeros -/
def c_fpref02_zeros_l0 : AC := (.seq (.seq (.region false [⟨some 4, .mv (.t 0), none, false⟩,
 ⟨some 5, .mv (.t 3), none, false⟩,
 ⟨some 6, .bin .num .quo (.t 5) (.c (.int .i64 32)), none, false⟩,
 ⟨some 7, .iaddr 1 (.t 4) (.t 6), none, false⟩,
 ⟨some 8, .load false 1 (.t 7), none, false⟩,
 ⟨some 9, .mv (.t 3), none, false⟩,
 ⟨some 10, .bin .num .rem (.t 9) (.c (.int .i64 32)), none, false⟩,
 ⟨some 11, .conv .u64 (.t 10), none, false⟩,
 ⟨some 12, .bin .num .shr (.t 8) (.t 11), none, false⟩,
 ⟨some 13, .bin .num .and (.t 12) (.c (.int .u32 1)), none, false⟩,
 ⟨some 14, .bin .num .eql (.t 13) (.c (.int .u32 0)), none, false⟩]) (.cond (.t 14) .skip (.exit 0))) (.block 1 (.region false [⟨some 15, .mv (.t 3), none, false⟩,
 ⟨some 16, .bin .num .add (.t 15) (.c (.int .i64 1)), none, false⟩,
 ⟨some 3, .mv (.t 16), none, false⟩])))
@[simp] def c_fpref02_zeros : AFn := ⟨[(.tmp 2)],
  (.seq (.region false [⟨some 2, .mv (.c (.int .i64 0)), none, false⟩]) (.seq (.region false [⟨some 3, .mv (.c (.int .i64 0)), none, false⟩]) (.seq (.block 0 (.loop c_fpref02_zeros_l0)) (.seq (.region false [⟨some 17, .mv (.t 3), none, false⟩,
 ⟨some 2, .mv (.t 17), none, false⟩]) .ret)))),
  false, false⟩

/- fpref02_right -/
def c_fpref02_right_l0 : AC := (.seq (.seq (.region false [⟨some 17, .mv (.t 6), none, false⟩,
 ⟨some 18, .mv (.t 0), none, false⟩,
 ⟨some 19, .len (.t 18), none, false⟩,
 ⟨some 20, .bin .num .lss (.t 17) (.t 19), none, false⟩]) (.cond (.t 20) .skip (.exit 0))) (.seq (.block 1 (.seq (.region false [⟨some 23, .mv (.t 0), none, false⟩,
 ⟨some 24, .mv (.t 6), none, false⟩,
 ⟨some 25, .iaddr 1 (.t 23) (.t 24), none, false⟩,
 ⟨some 26, .load false 1 (.t 25), none, false⟩,
 ⟨some 27, .conv .u64 (.t 26), none, false⟩,
 ⟨some 7, .mv (.t 27), none, false⟩]) (.seq (.seq (.region false [⟨some 28, .mv (.t 6), none, false⟩,
 ⟨some 29, .bin .num .add (.t 28) (.c (.int .i64 1)), none, false⟩,
 ⟨some 30, .mv (.t 0), none, false⟩,
 ⟨some 31, .len (.t 30), none, false⟩,
 ⟨some 32, .bin .num .lss (.t 29) (.t 31), none, false⟩]) (.cond (.t 32) (.region false [⟨some 33, .mv (.t 7), none, false⟩,
 ⟨some 34, .mv (.t 0), none, false⟩,
 ⟨some 35, .mv (.t 6), none, false⟩,
 ⟨some 36, .bin .num .add (.t 35) (.c (.int .i64 1)), none, false⟩,
 ⟨some 37, .iaddr 1 (.t 34) (.t 36), none, false⟩,
 ⟨some 38, .load false 1 (.t 37), none, false⟩,
 ⟨some 39, .conv .u64 (.t 38), none, false⟩,
 ⟨some 40, .bin .num .shl (.t 39) (.c (.int .u64 32)), none, false⟩,
 ⟨some 41, .bin .num .or (.t 33) (.t 40), none, false⟩,
 ⟨some 7, .mv (.t 41), none, false⟩]) .skip)) (.region false [⟨some 42, .mv (.t 5), none, false⟩,
 ⟨some 43, .mv (.t 7), none, false⟩,
 ⟨some 44, .mv (.t 1), none, false⟩,
 ⟨some 45, .bin .num .rem (.t 44) (.c (.int .i64 32)), none, false⟩,
 ⟨some 46, .conv .u64 (.t 45), none, false⟩,
 ⟨some 47, .bin .num .shr (.t 43) (.t 46), none, false⟩,
 ⟨some 48, .bin .num .and (.t 47) (.c (.int .u64 4294967295)), none, false⟩,
 ⟨some 49, .conv .u32 (.t 48), none, false⟩,
 ⟨some 50, .bslice 1 1 (.int .u32 0) [(0, (.t 49))], none, false⟩,
 ⟨some 51, .append 1 4 (.t 42) (.t 50), none, false⟩,
 ⟨some 5, .mv (.t 51), none, false⟩])))) (.region false [⟨some 21, .mv (.t 6), none, false⟩,
 ⟨some 22, .bin .num .add (.t 21) (.c (.int .i64 1)), none, false⟩,
 ⟨some 6, .mv (.t 22), none, false⟩])))
@[simp] def c_fpref02_right : AFn := ⟨[(.tmp 4)],
  (.seq (.region false [⟨some 4, .mv (.c .nil), none, false⟩]) (.seq (.seq (.region false [⟨some 8, .mv (.t 1), none, false⟩,
 ⟨some 9, .bin .num .quo (.t 8) (.c (.int .i64 32)), none, false⟩,
 ⟨some 10, .mv (.t 0), none, false⟩,
 ⟨some 11, .len (.t 10), none, false⟩,
 ⟨some 12, .bin .num .geq (.t 9) (.t 11), none, false⟩]) (.cond (.t 12) (.seq (.region false [⟨some 4, .mv (.c .nil), none, false⟩]) .ret) .skip)) (.seq (.region false [⟨some 13, .mv (.t 0), none, false⟩,
 ⟨some 14, .mv (.t 1), none, false⟩,
 ⟨some 15, .bin .num .quo (.t 14) (.c (.int .i64 32)), none, false⟩,
 ⟨some 16, .slice 1 (.t 13) (some (.t 15)) none none, none, false⟩,
 ⟨some 0, .mv (.t 16), none, false⟩]) (.seq (.region false [⟨some 5, .mv (.c .nil), none, false⟩]) (.seq (.seq (.region false [⟨some 6, .mv (.c (.int .i64 0)), none, false⟩]) (.block 0 (.loop c_fpref02_right_l0))) (.seq (.region false [⟨some 52, .mv (.t 5), none, false⟩,
 ⟨some 53, .call (.f 101) [(.t 52)], none, false⟩,
 ⟨some 4, .mv (.t 53), none, false⟩]) .ret)))))),
  false, false⟩

/- interval_more -/
@[simp] def c_interval_more : AFn := ⟨[(.cell 4 true 3)],
  (.seq (.region false [⟨some 2, .box 3 (.t 0), none, false⟩,
 ⟨some 3, .box 3 (.t 1), none, false⟩,
 ⟨some 4, .new 3 (.agg [(.bool false), .nil, (.int .i64 0)]), none, false⟩]) (.seq (.seq (.region false [⟨some 5, .load true 3 (.t 2), none, false⟩,
 ⟨some 6, .load true 3 (.t 3), none, false⟩,
 ⟨some 7, .call (.f 52) [(.t 5), (.t 6)], none, false⟩,
 ⟨some 8, .bin .num .geq (.t 7) (.c (.int .i64 0)), none, false⟩]) (.cond (.t 8) (.seq (.region false [⟨some 9, .load true 3 (.t 2), none, false⟩,
 ⟨none, .store 3 (.t 4) (.t 9), none, false⟩]) .ret) .skip)) (.seq (.region false [⟨some 10, .load true 3 (.t 3), none, false⟩,
 ⟨none, .store 3 (.t 4) (.t 10), none, false⟩]) .ret))),
  false, false⟩

/- interval_less -/
@[simp] def c_interval_less : AFn := ⟨[(.cell 4 true 3)],
  (.seq (.region false [⟨some 2, .box 3 (.t 0), none, false⟩,
 ⟨some 3, .box 3 (.t 1), none, false⟩,
 ⟨some 4, .new 3 (.agg [(.bool false), .nil, (.int .i64 0)]), none, false⟩]) (.seq (.seq (.region false [⟨some 5, .load true 3 (.t 2), none, false⟩,
 ⟨some 6, .load true 3 (.t 3), none, false⟩,
 ⟨some 7, .call (.f 52) [(.t 5), (.t 6)], none, false⟩,
 ⟨some 8, .bin .num .leq (.t 7) (.c (.int .i64 0)), none, false⟩]) (.cond (.t 8) (.seq (.region false [⟨some 9, .load true 3 (.t 2), none, false⟩,
 ⟨none, .store 3 (.t 4) (.t 9), none, false⟩]) .ret) .skip)) (.seq (.region false [⟨some 10, .load true 3 (.t 3), none, false⟩,
 ⟨none, .store 3 (.t 4) (.t 10), none, false⟩]) .ret))),
  false, false⟩

/- interval_known -/
def c_interval_known_l0 : AC := (.seq (.region false [⟨some 8, .bin .num .lss (.t 7) (.t 6), none, false⟩]) (.seq (.cond (.t 8) .skip (.exit 0)) (.seq (.block 1 (.seq (.region false [⟨some 9, .iaddr 7 (.t 5) (.t 7), none, false⟩,
 ⟨some 10, .load true 7 (.t 9), none, false⟩,
 ⟨some 4, .new 7 (.agg [(.bool false), .nil, (.int .i64 0), (.bool false), .nil, (.int .i64 0), (.bool false)]), none, false⟩,
 ⟨none, .store 7 (.t 4) (.t 10), none, false⟩]) (.seq (.region false [⟨some 11, .faddr 6 (.t 4), none, false⟩,
 ⟨some 12, .load false 1 (.t 11), none, false⟩,
 ⟨some 13, .mv (.t 12), none, false⟩,
 ⟨some 14, .load true 7 (.t 4), some (13, false), false⟩,
 ⟨some 15, .call (.f 77) [(.t 14)], some (13, false), false⟩,
 ⟨some 16, .un .not (.t 15), some (13, false), false⟩,
 ⟨some 17, .pick (.t 13) (.c (.bool true)) (.t 16), none, false⟩]) (.cond (.t 17) (.seq (.region false [⟨some 2, .mv (.c (.bool false)), none, false⟩]) .ret) .skip)))) (.region false [⟨some 18, .bin .num .add (.t 7) (.c (.int .i64 1)), none, false⟩,
 ⟨some 7, .mv (.t 18), none, false⟩]))))
@[simp] def c_interval_known : AFn := ⟨[(.tmp 2)],
  (.seq (.region false [⟨some 2, .mv (.c (.bool false)), none, false⟩]) (.seq (.seq (.region false [⟨some 5, .mv (.t 0), none, false⟩,
 ⟨some 6, .len (.t 5), none, false⟩,
 ⟨some 7, .mv (.c (.int .i64 0)), none, false⟩]) (.block 0 (.loop c_interval_known_l0))) (.seq (.region false [⟨some 2, .mv (.c (.bool true)), none, false⟩]) .ret))),
  false, false⟩

/- interval_Whole -/
@[simp] def c_interval_Whole : AFn := ⟨[(.cell 0 true 7)],
  (.seq (.region false [⟨some 0, .new 7 (.agg [(.bool false), .nil, (.int .i64 0), (.bool false), .nil, (.int .i64 0), (.bool false)]), none, false⟩]) (.seq (.region false [⟨some 1, .build [(.bool false), .nil, (.int .i64 0), (.bool false), .nil, (.int .i64 0), (.bool false)] [(6, 1, (.c (.bool true)))], none, false⟩,
 ⟨none, .store 7 (.t 0) (.t 1), none, false⟩]) .ret)),
  false, false⟩

/- fpref05_known -/
@[simp] def c_fpref05_known : AFn := ⟨[(.tmp 2)],
  (.seq (.region false [⟨some 1, .box 7 (.t 0), none, false⟩,
 ⟨some 2, .mv (.c (.bool false)), none, false⟩]) (.seq (.region false [⟨some 3, .load true 7 (.t 1), none, false⟩,
 ⟨some 4, .call (.f 70) [(.t 3)], none, false⟩,
 ⟨some 5, .mv (.t 4), none, false⟩,
 ⟨some 6, .faddr 6 (.t 1), some (5, true), false⟩,
 ⟨some 7, .load false 1 (.t 6), some (5, true), false⟩,
 ⟨some 8, .un .not (.t 7), some (5, true), false⟩,
 ⟨some 9, .pick (.t 5) (.t 8) (.c (.bool false)), none, false⟩,
 ⟨some 2, .mv (.t 9), none, false⟩]) .ret)),
  false, false⟩

/- fpref05_Whole -/
@[simp] def c_fpref05_Whole : AFn := ⟨[(.cell 0 true 7)],
  (.seq (.region false [⟨some 0, .new 7 (.agg [(.bool false), .nil, (.int .i64 0), (.bool false), .nil, (.int .i64 0), (.bool false)]), none, false⟩]) (.seq (.region false [⟨some 1, .build [(.bool false), .nil, (.int .i64 0), (.bool false), .nil, (.int .i64 0), (.bool false)] [(6, 1, (.c (.bool true)))], none, false⟩,
 ⟨none, .store 7 (.t 0) (.t 1), none, false⟩]) .ret)),
  false, false⟩

/- natural_Bits -/
@[simp] def c_natural_Bits : AFn := ⟨[(.tmp 2)],
  (.seq (.region false [⟨some 2, .mv (.c (.int .i64 0)), none, false⟩]) (.seq (.region false [⟨some 3, .mv (.t 0), none, false⟩,
 ⟨some 4, .call (.f 111) [(.t 3)], none, false⟩,
 ⟨some 0, .mv (.t 4), none, false⟩]) (.seq (.seq (.region false [⟨some 5, .mv (.t 0), none, false⟩,
 ⟨some 6, .len (.t 5), none, false⟩,
 ⟨some 7, .bin .num .eql (.t 6) (.c (.int .i64 0)), none, false⟩]) (.cond (.t 7) (.seq (.region false [⟨some 2, .mv (.c (.int .i64 0)), none, false⟩]) .ret) .skip)) (.seq (.region false [⟨some 8, .mv (.t 0), none, false⟩,
 ⟨some 9, .len (.t 8), none, false⟩,
 ⟨some 10, .bin .num .sub (.t 9) (.c (.int .i64 1)), none, false⟩,
 ⟨some 11, .bin .num .mul (.c (.int .i64 32)) (.t 10), none, false⟩,
 ⟨some 12, .mv (.t 0), none, false⟩,
 ⟨some 13, .mv (.t 0), none, false⟩,
 ⟨some 14, .len (.t 13), none, false⟩,
 ⟨some 15, .bin .num .sub (.t 14) (.c (.int .i64 1)), none, false⟩,
 ⟨some 16, .iaddr 1 (.t 12) (.t 15), none, false⟩,
 ⟨some 17, .load false 1 (.t 16), none, false⟩,
 ⟨some 18, .call (.f 113) [(.t 17)], none, false⟩,
 ⟨some 19, .bin .num .add (.t 11) (.t 18), none, false⟩,
 ⟨some 2, .mv (.t 19), none, false⟩]) .ret)))),
  false, false⟩

/- natural_trim -/
def c_natural_trim_l0 : AC := (.seq (.seq (.region false [⟨some 6, .mv (.t 3), none, false⟩,
 ⟨some 7, .bin .num .gtr (.t 6) (.c (.int .i64 0)), none, false⟩,
 ⟨some 8, .mv (.t 7), none, false⟩,
 ⟨some 9, .mv (.t 0), some (8, true), false⟩,
 ⟨some 10, .mv (.t 3), some (8, true), false⟩,
 ⟨some 11, .bin .num .sub (.t 10) (.c (.int .i64 1)), some (8, true), false⟩,
 ⟨some 12, .iaddr 1 (.t 9) (.t 11), some (8, true), false⟩,
 ⟨some 13, .load false 1 (.t 12), some (8, true), false⟩,
 ⟨some 14, .bin .num .eql (.t 13) (.c (.int .u32 0)), some (8, true), false⟩,
 ⟨some 15, .pick (.t 8) (.t 14) (.c (.bool false)), none, false⟩]) (.cond (.t 15) .skip (.exit 0))) (.block 1 (.region false [⟨some 16, .mv (.t 3), none, false⟩,
 ⟨some 17, .bin .num .sub (.t 16) (.c (.int .i64 1)), none, false⟩,
 ⟨some 3, .mv (.t 17), none, false⟩])))
@[simp] def c_natural_trim : AFn := ⟨[(.tmp 2)],
  (.seq (.region false [⟨some 2, .mv (.c .nil), none, false⟩]) (.seq (.region false [⟨some 4, .mv (.t 0), none, false⟩,
 ⟨some 5, .len (.t 4), none, false⟩,
 ⟨some 3, .mv (.t 5), none, false⟩]) (.seq (.block 0 (.loop c_natural_trim_l0)) (.seq (.region false [⟨some 18, .mv (.t 0), none, false⟩,
 ⟨some 19, .mv (.t 3), none, false⟩,
 ⟨some 20, .slice 1 (.t 18) none (some (.t 19)) none, none, false⟩,
 ⟨some 2, .mv (.t 20), none, false⟩]) .ret)))),
  false, false⟩

/- natural_Shl -/
@[simp] def c_natural_Shl : AFn := ⟨[(.tmp 4), (.tmp 5)],
  (.seq (.region false [⟨some 4, .mv (.c .nil), none, false⟩,
 ⟨some 5, .mv (.c (.int .i64 0)), none, false⟩]) (.seq (.block 0 (.seq (.region false [⟨some 7, .mv (.t 0), none, false⟩,
 ⟨some 8, .bslice 1 1 .nil [(0, (.t 7))], none, false⟩,
 ⟨some 9, .call (.f 114) [(.t 8)], none, false⟩,
 ⟨some 6, .mv (.t 9), none, false⟩]) (.cond (.t 6) (.seq (.region false [⟨some 4, .mv (.c .nil), none, false⟩,
 ⟨some 5, .mv (.c (.int .i64 9)), none, false⟩]) .ret) (.seq (.region false [⟨some 11, .mv (.t 1), none, false⟩,
 ⟨some 12, .bin .num .lss (.t 11) (.c (.int .i64 0)), none, false⟩,
 ⟨some 13, .mv (.t 12), none, false⟩,
 ⟨some 14, .mv (.t 1), some (13, false), false⟩,
 ⟨some 15, .bin .num .gtr (.t 14) (.c (.int .i64 65536)), some (13, false), false⟩,
 ⟨some 16, .pick (.t 13) (.c (.bool true)) (.t 15), none, false⟩,
 ⟨some 10, .mv (.t 16), none, false⟩]) (.cond (.t 10) (.seq (.region false [⟨some 4, .mv (.c .nil), none, false⟩,
 ⟨some 5, .mv (.c (.int .i64 2)), none, false⟩]) .ret) .skip))))) (.seq (.region false [⟨some 17, .mv (.t 0), none, false⟩,
 ⟨some 18, .mv (.t 1), none, false⟩,
 ⟨some 19, .call (.f 116) [(.t 17), (.t 18)], none, false⟩,
 ⟨some 20, .call (.f 115) [(.t 19)], none, false⟩,
 ⟨some 21, .extract 0 (.t 20), none, false⟩,
 ⟨some 22, .extract 1 (.t 20), none, false⟩,
 ⟨some 4, .mv (.t 21), none, false⟩,
 ⟨some 5, .mv (.t 22), none, false⟩]) .ret))),
  false, false⟩

/- math_bits_Len32 -/
@[simp] def c_math_bits_Len32 : AFn := ⟨[(.tmp 2)],
  (.seq (.region false [⟨some 2, .mv (.c (.int .i64 0)), none, false⟩]) (.seq (.seq (.region false [⟨some 3, .mv (.t 0), none, false⟩,
 ⟨some 4, .bin .num .geq (.t 3) (.c (.int .u32 65536)), none, false⟩]) (.cond (.t 4) (.seq (.region false [⟨some 5, .mv (.t 0), none, false⟩,
 ⟨some 6, .bin .num .shr (.t 5) (.c (.int .u64 16)), none, false⟩,
 ⟨some 0, .mv (.t 6), none, false⟩]) (.region false [⟨some 2, .mv (.c (.int .i64 16)), none, false⟩])) .skip)) (.seq (.seq (.region false [⟨some 7, .mv (.t 0), none, false⟩,
 ⟨some 8, .bin .num .geq (.t 7) (.c (.int .u32 256)), none, false⟩]) (.cond (.t 8) (.seq (.region false [⟨some 9, .mv (.t 0), none, false⟩,
 ⟨some 10, .bin .num .shr (.t 9) (.c (.int .u64 8)), none, false⟩,
 ⟨some 0, .mv (.t 10), none, false⟩]) (.region false [⟨some 11, .mv (.t 2), none, false⟩,
 ⟨some 12, .bin .num .add (.t 11) (.c (.int .i64 8)), none, false⟩,
 ⟨some 2, .mv (.t 12), none, false⟩])) .skip)) (.seq (.region false [⟨some 13, .mv (.t 2), none, false⟩,
 ⟨some 14, .mv (.t 0), none, false⟩,
 ⟨some 15, .conv .u8 (.t 14), none, false⟩,
 ⟨some 16, .sindex (.c (.str str_0)) (.t 15), none, false⟩,
 ⟨some 17, .conv .i64 (.t 16), none, false⟩,
 ⟨some 18, .bin .num .add (.t 13) (.t 17), none, false⟩,
 ⟨some 2, .mv (.t 18), none, false⟩]) .ret)))),
  false, false⟩

/- natural_long -/
@[simp] def c_natural_long : AFn := ⟨[(.tmp 2)],
  (.seq (.region false [⟨some 2, .mv (.c (.bool false)), none, false⟩]) (.seq (.region false [⟨some 3, .mv (.t 0), none, false⟩,
 ⟨some 4, .call (.f 117) [(.t 3), (.f 118)], none, false⟩,
 ⟨some 2, .mv (.t 4), none, false⟩]) .ret)),
  false, false⟩

/- natural_done -/
@[simp] def c_natural_done : AFn := ⟨[(.tmp 2), (.tmp 3)],
  (.seq (.region false [⟨some 2, .mv (.c .nil), none, false⟩,
 ⟨some 3, .mv (.c (.int .i64 0)), none, false⟩]) (.seq (.region false [⟨some 4, .mv (.t 0), none, false⟩,
 ⟨some 5, .call (.f 111) [(.t 4)], none, false⟩,
 ⟨some 0, .mv (.t 5), none, false⟩]) (.seq (.seq (.region false [⟨some 6, .mv (.t 0), none, false⟩,
 ⟨some 7, .bslice 1 1 .nil [(0, (.t 6))], none, false⟩,
 ⟨some 8, .call (.f 114) [(.t 7)], none, false⟩]) (.cond (.t 8) (.seq (.region false [⟨some 2, .mv (.c .nil), none, false⟩,
 ⟨some 3, .mv (.c (.int .i64 9)), none, false⟩]) .ret) .skip)) (.seq (.region false [⟨some 9, .mv (.t 0), none, false⟩,
 ⟨some 10, .call (.f 119) [(.t 9)], none, false⟩,
 ⟨some 2, .mv (.t 10), none, false⟩,
 ⟨some 3, .mv (.c (.int .i64 0)), none, false⟩]) .ret)))),
  false, false⟩

/- natural_shl -/
def c_natural_shl_l0 : AC := (.seq (.region false [⟨some 24, .bin .num .lss (.t 23) (.t 22), none, false⟩]) (.seq (.cond (.t 24) .skip (.exit 0)) (.seq (.block 1 (.seq (.region false [⟨some 25, .iaddr 1 (.t 21) (.t 23), none, false⟩,
 ⟨some 26, .load false 1 (.t 25), none, false⟩,
 ⟨some 8, .mv (.t 26), none, false⟩]) (.seq (.region false [⟨some 27, .mv (.t 8), none, false⟩,
 ⟨some 28, .conv .u64 (.t 27), none, false⟩,
 ⟨some 29, .mv (.t 1), none, false⟩,
 ⟨some 30, .bin .num .rem (.t 29) (.c (.int .i64 32)), none, false⟩,
 ⟨some 31, .bin .num .shl (.t 28) (.t 30), none, false⟩,
 ⟨some 32, .mv (.t 6), none, false⟩,
 ⟨some 33, .bin .num .or (.t 31) (.t 32), none, false⟩,
 ⟨some 9, .mv (.t 33), none, false⟩]) (.region false [⟨some 34, .mv (.t 5), none, false⟩,
 ⟨some 35, .mv (.t 9), none, false⟩,
 ⟨some 36, .conv .u32 (.t 35), none, false⟩,
 ⟨some 37, .bslice 1 1 (.int .u32 0) [(0, (.t 36))], none, false⟩,
 ⟨some 38, .append 1 4 (.t 34) (.t 37), none, false⟩,
 ⟨some 39, .mv (.t 9), none, false⟩,
 ⟨some 40, .bin .num .shr (.t 39) (.c (.int .u64 32)), none, false⟩,
 ⟨some 5, .mv (.t 38), none, false⟩,
 ⟨some 6, .mv (.t 40), none, false⟩])))) (.region false [⟨some 41, .bin .num .add (.t 23) (.c (.int .i64 1)), none, false⟩,
 ⟨some 23, .mv (.t 41), none, false⟩]))))
@[simp] def c_natural_shl : AFn := ⟨[(.tmp 4)],
  (.seq (.region false [⟨some 4, .mv (.c .nil), none, false⟩]) (.seq (.region false [⟨some 10, .mv (.t 0), none, false⟩,
 ⟨some 11, .call (.f 111) [(.t 10)], none, false⟩,
 ⟨some 0, .mv (.t 11), none, false⟩]) (.seq (.region false [⟨some 12, .mv (.t 1), none, false⟩,
 ⟨some 13, .bin .num .quo (.t 12) (.c (.int .i64 32)), none, false⟩,
 ⟨some 14, .mv (.t 1), none, false⟩,
 ⟨some 15, .bin .num .quo (.t 14) (.c (.int .i64 32)), none, false⟩,
 ⟨some 16, .mv (.t 0), none, false⟩,
 ⟨some 17, .len (.t 16), none, false⟩,
 ⟨some 18, .bin .num .add (.t 15) (.t 17), none, false⟩,
 ⟨some 19, .bin .num .add (.t 18) (.c (.int .i64 1)), none, false⟩,
 ⟨some 20, .mkslice 1 4 (.int .u32 0) (.t 13) (.t 19), none, false⟩,
 ⟨some 5, .mv (.t 20), none, false⟩]) (.seq (.region false [⟨some 6, .mv (.c (.int .u64 0)), none, false⟩]) (.seq (.seq (.region false [⟨some 21, .mv (.t 0), none, false⟩,
 ⟨some 22, .len (.t 21), none, false⟩,
 ⟨some 23, .mv (.c (.int .i64 0)), none, false⟩]) (.block 0 (.loop c_natural_shl_l0))) (.seq (.region false [⟨some 42, .mv (.t 5), none, false⟩,
 ⟨some 43, .mv (.t 6), none, false⟩,
 ⟨some 44, .conv .u32 (.t 43), none, false⟩,
 ⟨some 45, .bslice 1 1 (.int .u32 0) [(0, (.t 44))], none, false⟩,
 ⟨some 46, .append 1 4 (.t 42) (.t 45), none, false⟩,
 ⟨some 4, .mv (.t 46), none, false⟩]) .ret)))))),
  true, false⟩

/- slices_ContainsFunc_uint32s -/
@[simp] def c_slices_ContainsFunc_uint32s : AFn := ⟨[(.tmp 4)],
  (.seq (.region false [⟨some 4, .mv (.c (.bool false)), none, false⟩]) (.seq (.region false [⟨some 5, .mv (.t 0), none, false⟩,
 ⟨some 6, .mv (.t 1), none, false⟩,
 ⟨some 7, .call (.f 120) [(.t 5), (.t 6)], none, false⟩,
 ⟨some 8, .bin .num .geq (.t 7) (.c (.int .i64 0)), none, false⟩,
 ⟨some 4, .mv (.t 8), none, false⟩]) .ret)),
  false, false⟩

/- natural_long_1 -/
@[simp] def c_natural_long_1 : AFn := ⟨[(.tmp 2)],
  (.seq (.region false [⟨some 2, .mv (.c (.bool false)), none, false⟩]) (.seq (.region false [⟨some 3, .mv (.t 0), none, false⟩,
 ⟨some 4, .len (.t 3), none, false⟩,
 ⟨some 5, .bin .num .gtr (.t 4) (.c (.int .i64 256)), none, false⟩,
 ⟨some 2, .mv (.t 5), none, false⟩]) .ret)),
  false, false⟩

/- slices_Clip_uint32 -/
@[simp] def c_slices_Clip_uint32 : AFn := ⟨[(.tmp 2)],
  (.seq (.region false [⟨some 2, .mv (.c .nil), none, false⟩]) (.seq (.region false [⟨some 3, .mv (.t 0), none, false⟩,
 ⟨some 4, .mv (.t 0), none, false⟩,
 ⟨some 5, .len (.t 4), none, false⟩,
 ⟨some 6, .mv (.t 0), none, false⟩,
 ⟨some 7, .len (.t 6), none, false⟩,
 ⟨some 8, .slice 1 (.t 3) none (some (.t 5)) (some (.t 7)), none, false⟩,
 ⟨some 2, .mv (.t 8), none, false⟩]) .ret)),
  false, false⟩

/- slices_IndexFunc_uint32s -/
def c_slices_IndexFunc_uint32s_l0 : AC := (.seq (.region false [⟨some 9, .bin .num .lss (.t 8) (.t 7), none, false⟩]) (.seq (.cond (.t 9) .skip (.exit 0)) (.seq (.block 1 (.seq (.region false [⟨some 10, .mv (.t 8), none, false⟩,
 ⟨some 5, .mv (.t 10), none, false⟩]) (.seq (.region false [⟨some 11, .mv (.t 1), none, false⟩,
 ⟨some 12, .mv (.t 0), none, false⟩,
 ⟨some 13, .mv (.t 5), none, false⟩,
 ⟨some 14, .iaddr 1 (.t 12) (.t 13), none, false⟩,
 ⟨some 15, .load false 1 (.t 14), none, false⟩,
 ⟨some 16, .call (.t 11) [(.t 15)], none, false⟩]) (.cond (.t 16) (.seq (.region false [⟨some 17, .mv (.t 5), none, false⟩,
 ⟨some 4, .mv (.t 17), none, false⟩]) .ret) .skip)))) (.region false [⟨some 18, .bin .num .add (.t 8) (.c (.int .i64 1)), none, false⟩,
 ⟨some 8, .mv (.t 18), none, false⟩]))))
@[simp] def c_slices_IndexFunc_uint32s : AFn := ⟨[(.tmp 4)],
  (.seq (.region false [⟨some 4, .mv (.c (.int .i64 0)), none, false⟩]) (.seq (.seq (.region false [⟨some 6, .mv (.t 0), none, false⟩,
 ⟨some 7, .len (.t 6), none, false⟩,
 ⟨some 8, .mv (.c (.int .i64 0)), none, false⟩]) (.block 0 (.loop c_slices_IndexFunc_uint32s_l0))) (.seq (.region false [⟨some 4, .mv (.c (.int .i64 (-1))), none, false⟩]) .ret))),
  false, false⟩

/- fplaw05_IntervalSums -/
@[simp] def c_fplaw05_IntervalSums : AFn := ⟨[(.tmp 6)],
  (.seq (.region false [⟨some 3, .box 7 (.t 0), none, false⟩,
 ⟨some 4, .box 7 (.t 1), none, false⟩,
 ⟨some 6, .mv (.c (.bool false)), none, false⟩]) (.seq (.seq (.region false [⟨some 7, .call (.f 132) [], none, false⟩,
 ⟨some 8, .un .not (.t 7), none, false⟩]) (.cond (.t 8) (.seq (.region false [⟨some 6, .mv (.c (.bool false)), none, false⟩]) .ret) .skip)) (.seq (.seq (.region false [⟨some 9, .load true 7 (.t 3), none, false⟩,
 ⟨some 10, .load true 7 (.t 4), none, false⟩,
 ⟨some 11, .bslice 7 2 (.agg [(.bool false), .nil, (.int .i64 0), (.bool false), .nil, (.int .i64 0), (.bool false)]) [(0, (.t 9)), (1, (.t 10))], none, false⟩,
 ⟨some 12, .call (.f 143) [(.t 11)], none, false⟩]) (.cond (.t 12) (.seq (.region false [⟨some 6, .mv (.c (.bool true)), none, false⟩]) .ret) .skip)) (.seq (.region true [⟨some 13, .load true 7 (.t 3), none, false⟩,
 ⟨some 14, .load true 7 (.t 4), none, false⟩,
 ⟨some 15, .mv (.t 2), none, false⟩,
 ⟨some 16, .call (.f 138) [(.t 13), (.t 14), (.t 15)], none, false⟩,
 ⟨some 17, .load true 7 (.t 3), none, false⟩,
 ⟨some 18, .load true 7 (.t 4), none, false⟩,
 ⟨some 19, .mv (.t 2), none, false⟩,
 ⟨some 20, .call (.f 145) [(.t 17), (.t 18), (.t 19)], none, true⟩,
 ⟨some 21, .call (.f 144) [(.t 16), (.t 20)], none, true⟩,
 ⟨some 22, .mv (.t 21), none, false⟩,
 ⟨some 23, .load true 7 (.t 3), some (22, true), false⟩,
 ⟨some 24, .load true 7 (.t 4), some (22, true), false⟩,
 ⟨some 25, .mv (.t 2), some (22, true), false⟩,
 ⟨some 26, .call (.f 139) [(.t 23), (.t 24), (.t 25)], some (22, true), false⟩,
 ⟨some 27, .load true 7 (.t 3), some (22, true), false⟩,
 ⟨some 28, .load true 7 (.t 4), some (22, true), false⟩,
 ⟨some 29, .mv (.t 2), some (22, true), false⟩,
 ⟨some 30, .call (.f 146) [(.t 27), (.t 28), (.t 29)], some (22, true), true⟩,
 ⟨some 31, .call (.f 144) [(.t 26), (.t 30)], some (22, true), true⟩,
 ⟨some 32, .pick (.t 22) (.t 31) (.c (.bool false)), none, false⟩,
 ⟨some 33, .mv (.t 32), none, false⟩,
 ⟨some 34, .load true 7 (.t 3), some (33, true), false⟩,
 ⟨some 35, .call (.f 147) [(.t 34)], some (33, true), false⟩,
 ⟨some 36, .load true 7 (.t 3), some (33, true), false⟩,
 ⟨some 37, .call (.f 148) [(.t 36)], some (33, true), true⟩,
 ⟨some 38, .call (.f 144) [(.t 35), (.t 37)], some (33, true), true⟩,
 ⟨some 39, .pick (.t 33) (.t 38) (.c (.bool false)), none, false⟩,
 ⟨some 40, .mv (.t 39), none, false⟩,
 ⟨some 41, .load true 7 (.t 3), some (40, true), false⟩,
 ⟨some 42, .mv (.t 2), some (40, true), false⟩,
 ⟨some 43, .call (.f 149) [(.t 41), (.t 42)], some (40, true), false⟩,
 ⟨some 44, .load true 7 (.t 3), some (40, true), false⟩,
 ⟨some 45, .mv (.t 2), some (40, true), false⟩,
 ⟨some 46, .call (.f 150) [(.t 44), (.t 45)], some (40, true), true⟩,
 ⟨some 47, .call (.f 144) [(.t 43), (.t 46)], some (40, true), true⟩,
 ⟨some 48, .pick (.t 40) (.t 47) (.c (.bool false)), none, false⟩,
 ⟨some 6, .mv (.t 48), none, false⟩]) .ret)))),
  false, false⟩

/- fplaw05_awake -/
@[simp] def c_fplaw05_awake : AFn := ⟨[(.tmp 0)],
  (.seq (.region false [⟨some 0, .mv (.c (.bool false)), none, false⟩]) (.seq (.region false [⟨some 7, .call (.f 180) [(.c (.int .i64 (-1))), (.c (.int .i64 2))], none, false⟩,
 ⟨some 1, .new 7 (.agg [(.bool false), .nil, (.int .i64 0), (.bool false), .nil, (.int .i64 0), (.bool false)]), none, false⟩,
 ⟨none, .store 7 (.t 1) (.t 7), none, false⟩]) (.seq (.region false [⟨some 8, .call (.f 180) [(.c (.int .i64 1)), (.c (.int .i64 1))], none, false⟩,
 ⟨some 9, .call (.f 180) [(.c (.int .i64 3)), (.c (.int .i64 3))], none, false⟩,
 ⟨some 10, .call (.f 142) [(.t 8), (.t 9), (.c (.int .i64 8))], none, false⟩,
 ⟨some 2, .new 7 (.agg [(.bool false), .nil, (.int .i64 0), (.bool false), .nil, (.int .i64 0), (.bool false)]), none, false⟩,
 ⟨none, .store 7 (.t 2) (.t 10), none, false⟩]) (.seq (.region false [⟨some 12, .call (.f 183) [(.c (.int .i64 170))], none, false⟩,
 ⟨some 13, .call (.f 182) [(.t 12), (.c (.int .i64 (-9)))], none, false⟩,
 ⟨some 11, .mv (.t 13), none, false⟩,
 ⟨some 14, .extract 0 (.t 11), none, false⟩,
 ⟨some 15, .extract 1 (.t 11), none, false⟩,
 ⟨some 3, .new 3 (.agg [(.bool false), .nil, (.int .i64 0)]), none, false⟩,
 ⟨none, .store 3 (.t 3) (.t 14), none, false⟩,
 ⟨some 4, .mv (.t 15), none, false⟩]) (.seq (.region false [⟨some 17, .call (.f 183) [(.c (.int .i64 171))], none, false⟩,
 ⟨some 18, .call (.f 182) [(.t 17), (.c (.int .i64 (-9)))], none, false⟩,
 ⟨some 16, .mv (.t 18), none, false⟩,
 ⟨some 19, .extract 0 (.t 16), none, false⟩,
 ⟨some 20, .extract 1 (.t 16), none, false⟩,
 ⟨some 5, .new 3 (.agg [(.bool false), .nil, (.int .i64 0)]), none, false⟩,
 ⟨none, .store 3 (.t 5) (.t 19), none, false⟩,
 ⟨some 6, .mv (.t 20), none, false⟩]) (.seq (.region false [⟨some 21, .call (.f 180) [(.c (.int .i64 1)), (.c (.int .i64 2))], none, false⟩,
 ⟨some 22, .call (.f 180) [(.c (.int .i64 1)), (.c (.int .i64 2))], none, false⟩,
 ⟨some 23, .call (.f 139) [(.t 21), (.t 22), (.c (.int .i64 24))], none, false⟩,
 ⟨some 24, .call (.f 180) [(.c (.int .i64 (-1))), (.c (.int .i64 1))], none, false⟩,
 ⟨some 25, .call (.f 144) [(.t 23), (.t 24)], none, false⟩,
 ⟨some 26, .mv (.t 25), none, false⟩,
 ⟨some 27, .load true 7 (.t 1), some (26, true), false⟩,
 ⟨some 28, .call (.f 141) [(.t 27), (.c (.int .i64 24))], some (26, true), false⟩,
 ⟨some 29, .call (.f 180) [(.c (.int .i64 0)), (.c (.int .i64 4))], some (26, true), false⟩,
 ⟨some 30, .call (.f 144) [(.t 28), (.t 29)], some (26, true), false⟩,
 ⟨some 31, .pick (.t 26) (.t 30) (.c (.bool false)), none, false⟩,
 ⟨some 32, .mv (.t 31), none, false⟩,
 ⟨some 33, .load true 7 (.t 1), some (32, true), false⟩,
 ⟨some 34, .load true 7 (.t 1), some (32, true), false⟩,
 ⟨some 35, .call (.f 140) [(.t 33), (.t 34), (.c (.int .i64 24))], some (32, true), false⟩,
 ⟨some 36, .call (.f 180) [(.c (.int .i64 (-2))), (.c (.int .i64 4))], some (32, true), false⟩,
 ⟨some 37, .call (.f 144) [(.t 35), (.t 36)], some (32, true), false⟩,
 ⟨some 38, .pick (.t 32) (.t 37) (.c (.bool false)), none, false⟩,
 ⟨some 39, .mv (.t 38), none, false⟩,
 ⟨some 40, .load true 7 (.t 2), some (39, true), false⟩,
 ⟨some 41, .load true 3 (.t 3), some (39, true), false⟩,
 ⟨some 42, .load true 3 (.t 5), some (39, true), false⟩,
 ⟨some 43, .build [(.bool false), .nil, (.int .i64 0), (.bool false), .nil, (.int .i64 0), (.bool false)] [(0, 3, (.t 41)), (3, 3, (.t 42))], some (39, true), false⟩,
 ⟨some 44, .call (.f 144) [(.t 40), (.t 43)], some (39, true), false⟩,
 ⟨some 45, .pick (.t 39) (.t 44) (.c (.bool false)), none, false⟩,
 ⟨some 0, .mv (.t 45), none, false⟩]) .ret)))))),
  false, false⟩

/- interval_Add -/
@[simp] def c_interval_Add : AFn := ⟨[(.cell 6 true 7)],
  (.seq (.region false [⟨some 3, .box 7 (.t 0), none, false⟩,
 ⟨some 4, .box 7 (.t 1), none, false⟩,
 ⟨some 6, .new 7 (.agg [(.bool false), .nil, (.int .i64 0), (.bool false), .nil, (.int .i64 0), (.bool false)]), none, false⟩]) (.seq (.seq (.region false [⟨some 11, .load true 7 (.t 3), none, false⟩,
 ⟨some 12, .load true 7 (.t 4), none, false⟩,
 ⟨some 13, .bslice 7 2 (.agg [(.bool false), .nil, (.int .i64 0), (.bool false), .nil, (.int .i64 0), (.bool false)]) [(0, (.t 11)), (1, (.t 12))], none, false⟩,
 ⟨some 14, .call (.f 106) [(.t 13)], none, false⟩,
 ⟨some 15, .un .not (.t 14), none, false⟩,
 ⟨some 16, .mv (.t 15), none, false⟩,
 ⟨some 17, .mv (.t 2), some (16, false), false⟩,
 ⟨some 18, .call (.f 186) [(.t 17)], some (16, false), false⟩,
 ⟨some 19, .un .not (.t 18), some (16, false), false⟩,
 ⟨some 20, .pick (.t 16) (.c (.bool true)) (.t 19), none, false⟩]) (.cond (.t 20) (.seq (.region false [⟨some 21, .call (.f 107) [], none, false⟩,
 ⟨none, .store 7 (.t 6) (.t 21), none, false⟩]) .ret) .skip)) (.seq (.region false [⟨some 23, .faddr 0 (.t 3), none, false⟩,
 ⟨some 24, .load true 3 (.t 23), none, false⟩,
 ⟨some 25, .faddr 0 (.t 4), none, false⟩,
 ⟨some 26, .load true 3 (.t 25), none, false⟩,
 ⟨some 27, .mv (.t 2), none, false⟩,
 ⟨some 28, .call (.f 187) [(.t 24), (.t 26), (.t 27)], none, false⟩,
 ⟨some 22, .mv (.t 28), none, false⟩,
 ⟨some 29, .extract 0 (.t 22), none, false⟩,
 ⟨some 30, .extract 1 (.t 22), none, false⟩,
 ⟨some 7, .new 3 (.agg [(.bool false), .nil, (.int .i64 0)]), none, false⟩,
 ⟨none, .store 3 (.t 7) (.t 29), none, false⟩,
 ⟨some 8, .mv (.t 30), none, false⟩]) (.seq (.region false [⟨some 32, .faddr 3 (.t 3), none, false⟩,
 ⟨some 33, .load true 3 (.t 32), none, false⟩,
 ⟨some 34, .faddr 3 (.t 4), none, false⟩,
 ⟨some 35, .load true 3 (.t 34), none, false⟩,
 ⟨some 36, .mv (.t 2), none, false⟩,
 ⟨some 37, .call (.f 188) [(.t 33), (.t 35), (.t 36)], none, false⟩,
 ⟨some 31, .mv (.t 37), none, false⟩,
 ⟨some 38, .extract 0 (.t 31), none, false⟩,
 ⟨some 39, .extract 1 (.t 31), none, false⟩,
 ⟨some 9, .new 3 (.agg [(.bool false), .nil, (.int .i64 0)]), none, false⟩,
 ⟨none, .store 3 (.t 9) (.t 38), none, false⟩,
 ⟨some 10, .mv (.t 39), none, false⟩]) (.seq (.region false [⟨some 40, .load true 3 (.t 7), none, false⟩,
 ⟨some 41, .mv (.t 8), none, false⟩,
 ⟨some 42, .load true 3 (.t 9), none, false⟩,
 ⟨some 43, .mv (.t 10), none, false⟩,
 ⟨some 44, .call (.f 189) [(.t 40), (.t 41), (.t 42), (.t 43)], none, false⟩,
 ⟨none, .store 7 (.t 6) (.t 44), none, false⟩]) .ret))))),
  false, false⟩

/- interval_Sub -/
@[simp] def c_interval_Sub : AFn := ⟨[(.cell 6 true 7)],
  (.seq (.region false [⟨some 3, .box 7 (.t 0), none, false⟩,
 ⟨some 4, .box 7 (.t 1), none, false⟩,
 ⟨some 6, .new 7 (.agg [(.bool false), .nil, (.int .i64 0), (.bool false), .nil, (.int .i64 0), (.bool false)]), none, false⟩]) (.seq (.region true [⟨some 7, .load true 7 (.t 3), none, false⟩,
 ⟨some 8, .load true 7 (.t 4), none, false⟩,
 ⟨some 9, .call (.f 147) [(.t 8)], none, false⟩,
 ⟨some 10, .mv (.t 2), none, false⟩,
 ⟨some 11, .call (.f 138) [(.t 7), (.t 9), (.t 10)], none, true⟩,
 ⟨none, .store 7 (.t 6) (.t 11), none, true⟩]) .ret)),
  false, false⟩

/- interval_Mul -/
@[simp] def c_interval_Mul : AFn := ⟨[(.cell 6 true 7)],
  (.seq (.region false [⟨some 3, .box 7 (.t 0), none, false⟩,
 ⟨some 4, .box 7 (.t 1), none, false⟩,
 ⟨some 6, .new 7 (.agg [(.bool false), .nil, (.int .i64 0), (.bool false), .nil, (.int .i64 0), (.bool false)]), none, false⟩]) (.seq (.seq (.region false [⟨some 7, .load true 7 (.t 3), none, false⟩,
 ⟨some 8, .load true 7 (.t 4), none, false⟩,
 ⟨some 9, .bslice 7 2 (.agg [(.bool false), .nil, (.int .i64 0), (.bool false), .nil, (.int .i64 0), (.bool false)]) [(0, (.t 7)), (1, (.t 8))], none, false⟩,
 ⟨some 10, .call (.f 106) [(.t 9)], none, false⟩,
 ⟨some 11, .un .not (.t 10), none, false⟩,
 ⟨some 12, .mv (.t 11), none, false⟩,
 ⟨some 13, .mv (.t 2), some (12, false), false⟩,
 ⟨some 14, .call (.f 186) [(.t 13)], some (12, false), false⟩,
 ⟨some 15, .un .not (.t 14), some (12, false), false⟩,
 ⟨some 16, .pick (.t 12) (.c (.bool true)) (.t 15), none, false⟩]) (.cond (.t 16) (.seq (.region false [⟨some 17, .call (.f 107) [], none, false⟩,
 ⟨none, .store 7 (.t 6) (.t 17), none, false⟩]) .ret) .skip)) (.seq (.region false [⟨some 18, .load true 7 (.t 3), none, false⟩,
 ⟨some 19, .load true 7 (.t 4), none, false⟩,
 ⟨some 20, .mv (.t 2), none, false⟩,
 ⟨some 21, .call (.f 190) [(.t 18), (.t 19), (.t 20), (.f 191), (.f 192)], none, false⟩,
 ⟨none, .store 7 (.t 6) (.t 21), none, false⟩]) .ret))),
  false, false⟩

/- interval_Square -/
@[simp] def c_interval_Square : AFn := ⟨[(.cell 4 true 7)],
  (.seq (.region false [⟨some 2, .box 7 (.t 0), none, false⟩,
 ⟨some 4, .new 7 (.agg [(.bool false), .nil, (.int .i64 0), (.bool false), .nil, (.int .i64 0), (.bool false)]), none, false⟩]) (.seq (.region false [⟨some 10, .load true 7 (.t 2), none, false⟩,
 ⟨some 11, .call (.f 156) [(.t 10)], none, false⟩,
 ⟨some 5, .new 7 (.agg [(.bool false), .nil, (.int .i64 0), (.bool false), .nil, (.int .i64 0), (.bool false)]), none, false⟩,
 ⟨none, .store 7 (.t 5) (.t 11), none, false⟩]) (.seq (.seq (.region false [⟨some 12, .faddr 6 (.t 5), none, false⟩,
 ⟨some 13, .load false 1 (.t 12), none, false⟩,
 ⟨some 14, .mv (.t 13), none, false⟩,
 ⟨some 15, .mv (.t 1), some (14, false), false⟩,
 ⟨some 16, .call (.f 186) [(.t 15)], some (14, false), false⟩,
 ⟨some 17, .un .not (.t 16), some (14, false), false⟩,
 ⟨some 18, .pick (.t 14) (.c (.bool true)) (.t 17), none, false⟩]) (.cond (.t 18) (.seq (.region false [⟨some 19, .call (.f 107) [], none, false⟩,
 ⟨none, .store 7 (.t 4) (.t 19), none, false⟩]) .ret) .skip)) (.seq (.region false [⟨some 21, .faddr 0 (.t 5), none, false⟩,
 ⟨some 22, .load true 3 (.t 21), none, false⟩,
 ⟨some 23, .faddr 0 (.t 5), none, false⟩,
 ⟨some 24, .load true 3 (.t 23), none, false⟩,
 ⟨some 25, .mv (.t 1), none, false⟩,
 ⟨some 26, .call (.f 191) [(.t 22), (.t 24), (.t 25)], none, false⟩,
 ⟨some 20, .mv (.t 26), none, false⟩,
 ⟨some 27, .extract 0 (.t 20), none, false⟩,
 ⟨some 28, .extract 1 (.t 20), none, false⟩,
 ⟨some 6, .new 3 (.agg [(.bool false), .nil, (.int .i64 0)]), none, false⟩,
 ⟨none, .store 3 (.t 6) (.t 27), none, false⟩,
 ⟨some 7, .mv (.t 28), none, false⟩]) (.seq (.region false [⟨some 30, .faddr 3 (.t 5), none, false⟩,
 ⟨some 31, .load true 3 (.t 30), none, false⟩,
 ⟨some 32, .faddr 3 (.t 5), none, false⟩,
 ⟨some 33, .load true 3 (.t 32), none, false⟩,
 ⟨some 34, .mv (.t 1), none, false⟩,
 ⟨some 35, .call (.f 192) [(.t 31), (.t 33), (.t 34)], none, false⟩,
 ⟨some 29, .mv (.t 35), none, false⟩,
 ⟨some 36, .extract 0 (.t 29), none, false⟩,
 ⟨some 37, .extract 1 (.t 29), none, false⟩,
 ⟨some 8, .new 3 (.agg [(.bool false), .nil, (.int .i64 0)]), none, false⟩,
 ⟨none, .store 3 (.t 8) (.t 36), none, false⟩,
 ⟨some 9, .mv (.t 37), none, false⟩]) (.seq (.region false [⟨some 38, .load true 3 (.t 6), none, false⟩,
 ⟨some 39, .mv (.t 7), none, false⟩,
 ⟨some 40, .load true 3 (.t 8), none, false⟩,
 ⟨some 41, .mv (.t 9), none, false⟩,
 ⟨some 42, .call (.f 189) [(.t 38), (.t 39), (.t 40), (.t 41)], none, false⟩,
 ⟨none, .store 7 (.t 4) (.t 42), none, false⟩]) .ret)))))),
  false, false⟩

/- interval_Div -/
@[simp] def c_interval_Div : AFn := ⟨[(.cell 6 true 7)],
  (.seq (.region false [⟨some 3, .box 7 (.t 0), none, false⟩,
 ⟨some 4, .box 7 (.t 1), none, false⟩,
 ⟨some 6, .new 7 (.agg [(.bool false), .nil, (.int .i64 0), (.bool false), .nil, (.int .i64 0), (.bool false)]), none, false⟩]) (.seq (.seq (.region false [⟨some 7, .load true 7 (.t 3), none, false⟩,
 ⟨some 8, .load true 7 (.t 4), none, false⟩,
 ⟨some 9, .bslice 7 2 (.agg [(.bool false), .nil, (.int .i64 0), (.bool false), .nil, (.int .i64 0), (.bool false)]) [(0, (.t 7)), (1, (.t 8))], none, false⟩,
 ⟨some 10, .call (.f 106) [(.t 9)], none, false⟩,
 ⟨some 11, .un .not (.t 10), none, false⟩,
 ⟨some 12, .mv (.t 11), none, false⟩,
 ⟨some 13, .mv (.t 2), some (12, false), false⟩,
 ⟨some 14, .call (.f 186) [(.t 13)], some (12, false), false⟩,
 ⟨some 15, .un .not (.t 14), some (12, false), false⟩,
 ⟨some 16, .pick (.t 12) (.c (.bool true)) (.t 15), none, false⟩,
 ⟨some 17, .mv (.t 16), none, false⟩,
 ⟨some 18, .load true 7 (.t 4), some (17, false), false⟩,
 ⟨some 19, .call (.f 173) [(.t 18)], some (17, false), false⟩,
 ⟨some 20, .bin .num .eql (.t 19) (.c (.int .i64 0)), some (17, false), false⟩,
 ⟨some 21, .pick (.t 17) (.c (.bool true)) (.t 20), none, false⟩]) (.cond (.t 21) (.seq (.region false [⟨some 22, .call (.f 107) [], none, false⟩,
 ⟨none, .store 7 (.t 6) (.t 22), none, false⟩]) .ret) .skip)) (.seq (.region false [⟨some 23, .load true 7 (.t 3), none, false⟩,
 ⟨some 24, .load true 7 (.t 4), none, false⟩,
 ⟨some 25, .mv (.t 2), none, false⟩,
 ⟨some 26, .call (.f 190) [(.t 23), (.t 24), (.t 25), (.f 193), (.f 194)], none, false⟩,
 ⟨none, .store 7 (.t 6) (.t 26), none, false⟩]) .ret))),
  false, false⟩

/- fplaw05_great -/
def c_fplaw05_great_l0 : AC := (.seq (.region false [⟨some 8, .bin .num .lss (.t 7) (.t 6), none, false⟩]) (.seq (.cond (.t 8) .skip (.exit 0)) (.seq (.block 1 (.seq (.region false [⟨some 9, .iaddr 7 (.t 5) (.t 7), none, false⟩,
 ⟨some 10, .load true 7 (.t 9), none, false⟩,
 ⟨some 4, .new 7 (.agg [(.bool false), .nil, (.int .i64 0), (.bool false), .nil, (.int .i64 0), (.bool false)]), none, false⟩,
 ⟨none, .store 7 (.t 4) (.t 10), none, false⟩]) (.seq (.region false [⟨some 11, .faddr 0 (.t 4), none, false⟩,
 ⟨some 12, .load true 3 (.t 11), none, false⟩,
 ⟨some 13, .faddr 3 (.t 4), none, false⟩,
 ⟨some 14, .load true 3 (.t 13), none, false⟩,
 ⟨some 15, .bslice 3 2 (.agg [(.bool false), .nil, (.int .i64 0)]) [(0, (.t 12)), (1, (.t 14))], none, false⟩,
 ⟨some 16, .call (.f 168) [(.t 15)], none, false⟩]) (.cond (.t 16) (.seq (.region false [⟨some 2, .mv (.c (.bool true)), none, false⟩]) .ret) .skip)))) (.region false [⟨some 17, .bin .num .add (.t 7) (.c (.int .i64 1)), none, false⟩,
 ⟨some 7, .mv (.t 17), none, false⟩]))))
@[simp] def c_fplaw05_great : AFn := ⟨[(.tmp 2)],
  (.seq (.region false [⟨some 2, .mv (.c (.bool false)), none, false⟩]) (.seq (.seq (.region false [⟨some 5, .mv (.t 0), none, false⟩,
 ⟨some 6, .len (.t 5), none, false⟩,
 ⟨some 7, .mv (.c (.int .i64 0)), none, false⟩]) (.block 0 (.loop c_fplaw05_great_l0))) (.seq (.region false [⟨some 2, .mv (.c (.bool false)), none, false⟩]) .ret))),
  false, false⟩

/- fplaw05_same -/
@[simp] def c_fplaw05_same : AFn := ⟨[(.tmp 4)],
  (.seq (.region false [⟨some 2, .box 7 (.t 0), none, false⟩,
 ⟨some 3, .box 7 (.t 1), none, false⟩,
 ⟨some 4, .mv (.c (.bool false)), none, false⟩]) (.seq (.region false [⟨some 5, .load true 7 (.t 2), none, false⟩,
 ⟨some 6, .load true 7 (.t 3), none, false⟩,
 ⟨some 7, .call (.f 60) [(.t 5), (.t 6)], none, false⟩,
 ⟨some 4, .mv (.t 7), none, false⟩]) .ret)),
  false, false⟩

/- fpref05_Add -/
@[simp] def c_fpref05_Add : AFn := ⟨[(.cell 6 true 7)],
  (.seq (.region false [⟨some 3, .box 7 (.t 0), none, false⟩,
 ⟨some 4, .box 7 (.t 1), none, false⟩,
 ⟨some 6, .new 7 (.agg [(.bool false), .nil, (.int .i64 0), (.bool false), .nil, (.int .i64 0), (.bool false)]), none, false⟩]) (.seq (.seq (.region false [⟨some 11, .mv (.t 2), none, false⟩,
 ⟨some 12, .call (.f 195) [(.t 11)], none, false⟩,
 ⟨some 13, .un .not (.t 12), none, false⟩,
 ⟨some 14, .mv (.t 13), none, false⟩,
 ⟨some 15, .load true 7 (.t 3), some (14, false), false⟩,
 ⟨some 16, .call (.f 108) [(.t 15)], some (14, false), false⟩,
 ⟨some 17, .un .not (.t 16), some (14, false), false⟩,
 ⟨some 18, .pick (.t 14) (.c (.bool true)) (.t 17), none, false⟩,
 ⟨some 19, .mv (.t 18), none, false⟩,
 ⟨some 20, .load true 7 (.t 4), some (19, false), false⟩,
 ⟨some 21, .call (.f 108) [(.t 20)], some (19, false), false⟩,
 ⟨some 22, .un .not (.t 21), some (19, false), false⟩,
 ⟨some 23, .pick (.t 19) (.c (.bool true)) (.t 22), none, false⟩]) (.cond (.t 23) (.seq (.region false [⟨some 24, .call (.f 109) [], none, false⟩,
 ⟨none, .store 7 (.t 6) (.t 24), none, false⟩]) .ret) .skip)) (.seq (.region false [⟨some 26, .faddr 0 (.t 3), none, false⟩,
 ⟨some 27, .load true 3 (.t 26), none, false⟩,
 ⟨some 28, .faddr 0 (.t 4), none, false⟩,
 ⟨some 29, .load true 3 (.t 28), none, false⟩,
 ⟨some 30, .mv (.t 2), none, false⟩,
 ⟨some 31, .call (.f 196) [(.t 27), (.t 29), (.t 30), (.c (.bool false))], none, false⟩,
 ⟨some 25, .mv (.t 31), none, false⟩,
 ⟨some 32, .extract 0 (.t 25), none, false⟩,
 ⟨some 33, .extract 1 (.t 25), none, false⟩,
 ⟨some 7, .new 3 (.agg [(.bool false), .nil, (.int .i64 0)]), none, false⟩,
 ⟨none, .store 3 (.t 7) (.t 32), none, false⟩,
 ⟨some 8, .mv (.t 33), none, false⟩]) (.seq (.region false [⟨some 35, .faddr 3 (.t 3), none, false⟩,
 ⟨some 36, .load true 3 (.t 35), none, false⟩,
 ⟨some 37, .faddr 3 (.t 4), none, false⟩,
 ⟨some 38, .load true 3 (.t 37), none, false⟩,
 ⟨some 39, .mv (.t 2), none, false⟩,
 ⟨some 40, .call (.f 196) [(.t 36), (.t 38), (.t 39), (.c (.bool true))], none, false⟩,
 ⟨some 34, .mv (.t 40), none, false⟩,
 ⟨some 41, .extract 0 (.t 34), none, false⟩,
 ⟨some 42, .extract 1 (.t 34), none, false⟩,
 ⟨some 9, .new 3 (.agg [(.bool false), .nil, (.int .i64 0)]), none, false⟩,
 ⟨none, .store 3 (.t 9) (.t 41), none, false⟩,
 ⟨some 10, .mv (.t 42), none, false⟩]) (.seq (.region false [⟨some 43, .load true 3 (.t 7), none, false⟩,
 ⟨some 44, .mv (.t 8), none, false⟩,
 ⟨some 45, .load true 3 (.t 9), none, false⟩,
 ⟨some 46, .mv (.t 10), none, false⟩,
 ⟨some 47, .call (.f 197) [(.t 43), (.t 44), (.t 45), (.t 46)], none, false⟩,
 ⟨none, .store 7 (.t 6) (.t 47), none, false⟩]) .ret))))),
  false, false⟩

/- fpref05_Sub -/
@[simp] def c_fpref05_Sub : AFn := ⟨[(.cell 6 true 7)],
  (.seq (.region false [⟨some 3, .box 7 (.t 0), none, false⟩,
 ⟨some 4, .box 7 (.t 1), none, false⟩,
 ⟨some 6, .new 7 (.agg [(.bool false), .nil, (.int .i64 0), (.bool false), .nil, (.int .i64 0), (.bool false)]), none, false⟩]) (.seq (.region true [⟨some 7, .load true 7 (.t 3), none, false⟩,
 ⟨some 8, .load true 7 (.t 4), none, false⟩,
 ⟨some 9, .call (.f 148) [(.t 8)], none, false⟩,
 ⟨some 10, .mv (.t 2), none, false⟩,
 ⟨some 11, .call (.f 145) [(.t 7), (.t 9), (.t 10)], none, true⟩,
 ⟨none, .store 7 (.t 6) (.t 11), none, true⟩]) .ret)),
  false, false⟩

/- interval_Neg -/
@[simp] def c_interval_Neg : AFn := ⟨[(.cell 2 true 7)],
  (.seq (.region false [⟨some 1, .box 7 (.t 0), none, false⟩,
 ⟨some 2, .new 7 (.agg [(.bool false), .nil, (.int .i64 0), (.bool false), .nil, (.int .i64 0), (.bool false)]), none, false⟩]) (.seq (.seq (.region false [⟨some 3, .load true 7 (.t 1), none, false⟩,
 ⟨some 4, .bslice 7 1 (.agg [(.bool false), .nil, (.int .i64 0), (.bool false), .nil, (.int .i64 0), (.bool false)]) [(0, (.t 3))], none, false⟩,
 ⟨some 5, .call (.f 106) [(.t 4)], none, false⟩,
 ⟨some 6, .un .not (.t 5), none, false⟩]) (.cond (.t 6) (.seq (.region false [⟨some 7, .call (.f 107) [], none, false⟩,
 ⟨none, .store 7 (.t 2) (.t 7), none, false⟩]) .ret) .skip)) (.seq (.region true [⟨some 8, .faddr 3 (.t 1), none, false⟩,
 ⟨some 9, .load true 3 (.t 8), none, false⟩,
 ⟨some 10, .call (.f 198) [(.t 9)], none, false⟩,
 ⟨some 11, .faddr 0 (.t 1), none, false⟩,
 ⟨some 12, .load true 3 (.t 11), none, false⟩,
 ⟨some 13, .call (.f 198) [(.t 12)], none, true⟩,
 ⟨some 14, .build [(.bool false), .nil, (.int .i64 0), (.bool false), .nil, (.int .i64 0), (.bool false)] [(0, 3, (.t 10)), (3, 3, (.t 13))], none, false⟩,
 ⟨none, .store 7 (.t 2) (.t 14), none, true⟩]) .ret))),
  false, false⟩

/- fpref05_Neg -/
@[simp] def c_fpref05_Neg : AFn := ⟨[(.cell 2 true 7)],
  (.seq (.region false [⟨some 1, .box 7 (.t 0), none, false⟩,
 ⟨some 2, .new 7 (.agg [(.bool false), .nil, (.int .i64 0), (.bool false), .nil, (.int .i64 0), (.bool false)]), none, false⟩]) (.seq (.seq (.region false [⟨some 3, .load true 7 (.t 1), none, false⟩,
 ⟨some 4, .call (.f 108) [(.t 3)], none, false⟩,
 ⟨some 5, .un .not (.t 4), none, false⟩]) (.cond (.t 5) (.seq (.region false [⟨some 6, .call (.f 109) [], none, false⟩,
 ⟨none, .store 7 (.t 2) (.t 6), none, false⟩]) .ret) .skip)) (.seq (.region true [⟨some 7, .faddr 3 (.t 1), none, false⟩,
 ⟨some 8, .load true 3 (.t 7), none, false⟩,
 ⟨some 9, .call (.f 57) [(.t 8)], none, false⟩,
 ⟨some 10, .faddr 0 (.t 1), none, false⟩,
 ⟨some 11, .load true 3 (.t 10), none, false⟩,
 ⟨some 12, .call (.f 57) [(.t 11)], none, true⟩,
 ⟨some 13, .build [(.bool false), .nil, (.int .i64 0), (.bool false), .nil, (.int .i64 0), (.bool false)] [(0, 3, (.t 9)), (3, 3, (.t 12))], none, false⟩,
 ⟨none, .store 7 (.t 2) (.t 13), none, true⟩]) .ret))),
  false, false⟩

end Go.Abs
/- A program as a list of functions. -/
namespace Go.Abs

def look (l : List (Nat × AFn)) (g : Nat) : Option AFn := (l.find? fun p => p.1 == g).map (·.2)

end Go.Abs
