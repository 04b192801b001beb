/- Parts of the proof: FpCore, FpStrs, FpCode0. -/
import GoSem.Core.Code
import GoSem.Core.View
/- The abstract machine: values without memory, a small list of blocks for boxes and for slices that are still written, and one inductive relation that says what code does. It names no program and no world. -/
namespace Go.Abs

/-- Abstract values: 'sl' is a slice that nobody writes any more, 'ref' one that lies in a block, 'ptr' a pointer into a block, 'eptr' a pointer into what nobody writes. -/
inductive V where
  | bool (b : Bool)
  | int (k : IntKind) (n : Int)
  | str (s : ByteArray)
  | sl (l : List V)
  | nil
  | emp
  | ref (b z off len : Nat)
  | ptr (b i off : Nat)
  | eptr (cs : List V)
  | agg (cs : List V)
  | tup (vs : List V)
  | fn (g : Nat) (cap : List V)
  | nilfn
  deriving Inhabited

def V.undef : V := .tup []

def V.cells : V → List V
  | .agg cs => cs
  | v => [v]

/-- A cell that holds no place in a block. -/
def V.cellPure : V → Bool
  | .bool _ | .int _ _ | .str _ | .sl _ | .nil | .emp | .eptr _ | .fn _ [] | .nilfn => true
  | _ => false

def V.pure (v : V) : Bool := v.cells.all V.cellPure

/-- A cell that names blocks below n alone (a look that may say no too often). -/
def V.lowB (n : Nat) : V → Bool
  | .ref b _ _ _ => decide (b < n)
  | .ptr b _ _ => decide (b < n)
  | v => v.cellPure

def V.isTup : V → Bool
  | .tup _ => true
  | _ => false

/-- No cell is an aggregate. -/
def V.isCell : V → Bool
  | .agg _ | .tup _ => false
  | _ => true

def V.withCells : V → List V → V
  | .agg _, cs => .agg cs
  | _, cs => cs.headD .nil

structure Blk where
  z : Nat
  el : List V
  arr : Bool
  wr : Bool

abbrev Heap := List (Option Blk)
abbrev Env := Nat → V

/-- Our numbers of the functions, and the package's tables that nobody writes. -/
structure Gid where
  fn : FuncId → Option Nat
  tabs : Nat → Option (List V)

instance : CoeFun Gid (fun _ => FuncId → Option Nat) := ⟨Gid.fn⟩

inductive X where
  | t (i : Nat)
  | c (v : V)
  | f (g : Nat)

/-- What a comparison compares. -/
inductive BK where
  | num
  | bool
  | slice
  deriving DecidableEq

inductive AOp where
  | mv (x : X)
  | pick (c a b : X)
  | box (z : Nat) (x : X)
  | new (z : Nat) (v : V)
  | build (zero : List V) (parts : List (Nat × Nat × X))
  | bslice (z len : Nat) (zero : V) (parts : List (Nat × X))
  | load (ag : Bool) (z : Nat) (x : X)
  | store (z : Nat) (a x : X)
  | sload (ag : Bool) (z t : Nat)
  | storeN (z : Nat) (a x : X) (av : List Nat)
  | bin (k : BK) (op : BinOp) (x y : X)
  | un (op : UnOp) (x : X)
  | conv (k : IntKind) (x : X)
  | mkfn (g : Nat) (caps : List X)
  | mkslice (z bytes : Nat) (zero : V) (l c : X)
  | slice (z : Nat) (x : X) (lo hi mx : Option X)
  | faddr (off : Nat) (x : X)
  | field (ag : Bool) (off z : Nat) (x : X)
  | iaddr (z : Nat) (x i : X)
  | aiaddr (n z : Nat) (x i : X)
  | index (ag : Bool) (n z : Nat) (x i : X)
  | sindex (x i : X)
  | extract (i : Nat) (x : X)
  | len (x : X)
  | lenc (n : Nat) (x : X)
  | capn (x : X)
  | append (z bytes : Nat) (x y : X)
  | appendZ (z bytes : Nat) (zero : V) (x n : X)
  | copy (z : Nat) (x y : X)
  | min (x y : X)
  | max (x y : X)
  | max3 (x y z : X)
  | call (x : X) (args : List X)

structure AOper where
  dst : Option Nat
  op : AOp
  guard : Option (Nat × Bool)
  sync : Bool

inductive AC where
  | skip
  | region (draw : Bool) (ops : List AOper)
  | seq (a b : AC)
  | cond (c : X) (thn els : AC)
  | block (id : Nat) (body : AC)
  | loop (body : AC)
  | exit (id : Nat)
  | ret
  | stop

inductive RV where
  | tmp (t : Nat)
  | cell (t : Nat) (ag : Bool) (z : Nat)

structure AFn where
  results : List RV
  body : AC
  own : Bool
  raw : Bool

structure AProg where
  fn : Nat → Option AFn
  prim : Nat → List V → Option V

def getX (E : Env) : X → V
  | .t i => E i
  | .c v => v
  | .f g => .fn g []

def upd (E : Env) (d : Nat) (v : V) : Env := fun i => if i = d then v else E i

def put (E : Env) : Option Nat → V → Env
  | none, _ => E
  | some d, v => upd E d v

/-- Cells put in the place of others. -/
def splice (cs : List V) (off : Nat) (new : List V) : List V := cs.take off ++ new ++ cs.drop (off + new.length)

def wrapC (ag : Bool) (z : Nat) (cs : List V) : Option V :=
  if ag then (if z ≤ cs.length then some (.agg (cs.take z)) else none) else cs[0]?

def bitsI (op : BinOp) (k : IntKind) (x y : Int) : Option Int :=
  let a := BitVec.ofInt k.bits x
  let b := BitVec.ofInt k.bits y
  match op with
  | .and => some (k.wrap (a &&& b).toNat)
  | .or => some (k.wrap (a ||| b).toNat)
  | .xor => some (k.wrap (a ^^^ b).toNat)
  | .andNot => some (k.wrap (a &&& ~~~b).toNat)
  | _ => none

def binI (op : BinOp) (k : IntKind) (a b : Int) : Option V :=
  match op with
  | .add => some (.int k (k.wrap (a + b)))
  | .sub => some (.int k (k.wrap (a - b)))
  | .mul => some (.int k (k.wrap (a * b)))
  | .quo => if b = 0 then none else some (.int k (k.wrap (a.tdiv b)))
  | .rem => if b = 0 then none else some (.int k (a.tmod b))
  | .and => (bitsI .and k a b).map (.int k)
  | .or => (bitsI .or k a b).map (.int k)
  | .xor => (bitsI .xor k a b).map (.int k)
  | .andNot => (bitsI .andNot k a b).map (.int k)
  | .eql => some (.bool (decide (a = b)))
  | .neq => some (.bool (!decide (a = b)))
  | .lss => some (.bool (decide (a < b)))
  | .leq => some (.bool (decide (a ≤ b)))
  | .gtr => some (.bool (decide (b < a)))
  | .geq => some (.bool (decide (b ≤ a)))
  | .shl | .shr => none

def shiftI (op : BinOp) (k : IntKind) (a b : Int) : Option V :=
  if b < 0 then none else
  match op with
  | .shl => some (.int k (k.wrap (a * 2 ^ Nat.min b.toNat k.bits)))
  | .shr => some (.int k (a.fdiv (2 ^ Nat.min b.toNat k.bits)))
  | _ => none

/-- Is a slice nil? None where that is not known. -/
def V.isNil : V → Option Bool
  | .nil => some true
  | .sl (_ :: _) => some false
  | .emp => some false
  | .ref .. => some false
  | _ => none

def binV (bk : BK) (op : BinOp) (x y : V) : Option V :=
  match bk with
  | .num =>
    match x, y with
    | .int k a, .int k' b =>
      match op with
      | .shl => shiftI .shl k a b
      | .shr => shiftI .shr k a b
      | op => if k = k' then binI op k a b else none
    | _, _ => none
  | .bool =>
    match x, y with
    | .bool a, .bool b =>
      match op with
      | .eql => some (.bool (a == b))
      | .neq => some (.bool (!(a == b)))
      | _ => none
    | _, _ => none
  | .slice =>
    match x, y with
    | .nil, y => y.isNil.bind fun b => match op with
      | .eql => some (.bool b)
      | .neq => some (.bool !b)
      | _ => none
    | x, .nil => x.isNil.bind fun b => match op with
      | .eql => some (.bool b)
      | .neq => some (.bool !b)
      | _ => none
    | _, _ => none

def unV (op : UnOp) (x : V) : Option V :=
  match op, x with
  | .not, .bool b => some (.bool !b)
  | .neg, .int k n => some (.int k (k.wrap (0 - n)))
  | .xor, .int k n => (bitsI .xor k (if k.signed then -1 else k.max) n).map (.int k)
  | _, _ => none

/-- A cell made fit to be handed on for good: a block that it names is written no more. -/
def frzC (H : Heap) : V → Option (V × Heap)
  | .nil => some (.sl [], H)
  | .emp => some (.sl [], H)
  | .ref b z off len =>
    match H[b]? with
    | some (some k) =>
      if k.arr = true ∧ k.z = z ∧ off + len ≤ k.el.length then
        some (.sl ((k.el.drop off).take len), if k.wr then H.set b (some { k with wr := false }) else H)
      else none
    | _ => none
  | .agg _ => none
  | .tup _ => none
  | c => some (c, H)

def frzCs (H : Heap) : List V → Option (List V × Heap)
  | [] => some ([], H)
  | c :: cs => (frzC H c).bind fun (c', H1) => (frzCs H1 cs).bind fun (cs', H2) => some (c' :: cs', H2)

def frzV (H : Heap) : V → Option (V × Heap)
  | .agg cs => (frzCs H cs).bind fun (cs', H1) => some (.agg cs', H1)
  | v => frzC H v

def frzVs (H : Heap) : List V → Option (List V × Heap)
  | [] => some ([], H)
  | v :: vs => (frzV H v).bind fun (v', H1) => (frzVs H1 vs).bind fun (vs', H2) => some (v' :: vs', H2)

/-- A value put into a block of elements, or into an elder activation's variable. -/
def pureIn (H : Heap) (v : V) : Option (V × Heap) :=
  (frzV H v).bind fun (v', H1) => if v'.pure = true then some (v', H1) else none

def pureIns (H : Heap) : List V → Option (List V × Heap)
  | [] => some ([], H)
  | v :: vs => (pureIn H v).bind fun (v', H1) => (pureIns H1 vs).bind fun (vs', H2) => some (v' :: vs', H2)

/-- The elements that a slice shows, for reading. -/
def elems (H : Heap) : V → Option (List V)
  | .nil => some []
  | .emp => some []
  | .sl l => some l
  | .ref b z off len =>
    match H[b]? with
    | some (some k) => if k.arr = true ∧ k.z = z ∧ off + len ≤ k.el.length then some ((k.el.drop off).take len) else none
    | _ => none
  | _ => none

def headOk (z : Nat) : List V → Bool
  | [] => true
  | e :: _ => decide (e.cells.length = z)

def fillC (cells : List V) : List (Nat × Nat × V) → Option (List V)
  | [] => some cells
  | (off, size, v) :: rest =>
    if v.cells.length = size ∧ off + size ≤ cells.length ∧ v.isTup = false then fillC (splice cells off v.cells) rest else none

def fillE (z : Nat) (el : List V) : List (Nat × V) → Option (List V)
  | [] => some el
  | (i, v) :: rest => if v.cells.length = z ∧ i < el.length then fillE z (el.set i v) rest else none

def natOf : V → Option Nat
  | .int _ n => if 0 ≤ n then some n.toNat else none
  | _ => none

def optNat (E : Env) (d : Nat) : Option X → Option Nat
  | none => some d
  | some x => natOf (getX E x)

def appendLimit (need bytes : Nat) : Bool := decide (need * bytes ≤ 140737488355328)

/-- Pointers into different blocks. -/
def apart : V → V → Bool
  | .ptr b _ _, .ptr b' _ _ => b != b'
  | .eptr _, _ => true
  | _, _ => false

def stStore (n0 z : Nat) (a x : V) (H : Heap) : Option (V × Heap) :=
  match a with
  | .ptr b i off =>
    match H[b]? with
    | some (some k) =>
      if x.isTup = false then
        (if k.arr = true ∨ b < n0 then pureIn H x else some (x, H)).bind fun (v, H1) =>
          match H1[b]? with
          | some (some k1) =>
            match k1.el[i]? with
            | some e =>
              if k1.wr = true ∧ k1.arr = k.arr ∧ v.cells.length = z ∧ off + z ≤ e.cells.length then
                some (.undef, H1.set b (some { k1 with el := k1.el.set i (e.withCells (splice e.cells off v.cells)) }))
              else none
            | none => none
          | _ => none
      else none
    | _ => none
  | _ => none

def stp (n0 : Nat) (op : AOp) (E : Env) (H : Heap) : Option (V × Heap) :=
  match op with
  | .mv x => some (getX E x, H)
  | .pick c a b =>
    match getX E c with
    | .bool t => some (if t then getX E a else getX E b, H)
    | _ => none
  | .box z x =>
    if (getX E x).cells.length = z ∧ (getX E x).isTup = false then some (.ptr H.length 0 0, H ++ [some ⟨z, [getX E x], false, true⟩]) else none
  | .new z v => if v.cells.length = z ∧ v.pure = true then some (.ptr H.length 0 0, H ++ [some ⟨z, [v], false, true⟩]) else none
  | .build zero parts =>
    if zero.all V.cellPure = true then (fillC zero (parts.map fun p => (p.1, p.2.1, getX E p.2.2))).map fun cs => (.agg cs, H) else none
  | .bslice z len zero parts =>
    if zero.cells.length = z ∧ zero.pure = true then
      (pureIns H (parts.map fun p => getX E p.2)).bind fun (vs, H1) =>
        (fillE z (List.replicate len zero) ((parts.map (·.1)).zip vs)).map fun el => (.ref H1.length z 0 len, H1 ++ [some ⟨z, el, true, true⟩])
    else none
  | .load ag z x =>
    match getX E x with
    | .eptr cs => (wrapC ag z cs).map fun v => (v, H)
    | .ptr b i off =>
      match H[b]? with
      | some (some k) =>
        match k.el[i]? with
        | some e => (wrapC ag z (e.cells.drop off)).map fun v => (v, H)
        | none => none
      | _ => none
    | _ => none
  | .store z a x => stStore n0 z (getX E a) (getX E x) H
  | .sload ag z t =>
    match E t with
    | .eptr cs => (wrapC ag z cs).map fun v => (v, H)
    | .ptr b i off =>
      match H[b]? with
      | some (some k) =>
        match k.el[i]? with
        | some e => (wrapC ag z (e.cells.drop off)).bind fun v => if v.cells.all (V.lowB H.length) = true ∧ v.isTup = false then some (v, H) else none
        | none => none
      | _ => none
    | _ => none
  | .storeN z a x av => if (getX E x).pure = true ∧ (av.all fun t => apart (E t) (getX E a)) = true then stStore n0 z (getX E a) (getX E x) H else none
  | .bin bk op x y => (binV bk op (getX E x) (getX E y)).map fun v => (v, H)
  | .un op x => (unV op (getX E x)).map fun v => (v, H)
  | .conv k x =>
    match getX E x with
    | .int _ n => some (.int k (k.wrap n), H)
    | _ => none
  | .mkfn g caps => if (caps.map (getX E)).all V.isCell = true then some (.fn g (caps.map (getX E)), H) else none
  | .mkslice z bytes zero l c =>
    match natOf (getX E l), natOf (getX E c) with
    | some l, some c =>
      if l ≤ c ∧ c * bytes ≤ 281474976710656 ∧ c ≤ 9223372036854775807 ∧ zero.cells.length = z ∧ zero.pure = true then
        some (.ref H.length z 0 l, H ++ [some ⟨z, List.replicate c zero, true, true⟩])
      else none
    | _, _ => none
  | .slice z x lo hi mx =>
    match getX E x with
    | .nil =>
      match optNat E 0 lo, optNat E 0 hi, optNat E 0 mx with
      | some 0, some 0, some 0 => some (.nil, H)
      | _, _, _ => none
    | .sl l =>
      match optNat E 0 lo, optNat E l.length hi, optNat E l.length mx with
      | some lo, some hi, some mx =>
        if lo ≤ hi ∧ hi ≤ mx ∧ mx ≤ l.length ∧ (lo = 0 ∨ headOk z ((l.take hi).drop lo) = true) then some (.sl ((l.take hi).drop lo), H) else none
      | _, _, _ => none
    | .ref b z' off len =>
      match optNat E 0 lo, optNat E len hi, mx with
      | some lo, some hi, none => if lo ≤ hi ∧ hi ≤ len ∧ z' = z then some (.ref b z' (off + lo) (hi - lo), H) else none
      | _, _, _ => none
    | _ => none
  | .faddr off x =>
    match getX E x with
    | .ptr b i o => some (.ptr b i (o + off), H)
    | .eptr cs => some (.eptr (cs.drop off), H)
    | _ => none
  | .field ag off z x =>
    match getX E x with
    | .agg cs => (wrapC ag z (cs.drop off)).map fun v => (v, H)
    | _ => none
  | .iaddr z x i =>
    match getX E x, natOf (getX E i) with
    | .sl l, some i =>
      match l[i]? with
      | some e => if e.cells.length = z then some (.eptr e.cells, H) else none
      | none => none
    | .ref b z' off len, some i => if i < len ∧ z' = z then some (.ptr b (off + i) 0, H) else none
    | _, _ => none
  | .aiaddr n z x i =>
    match getX E x, natOf (getX E i) with
    | .ptr b j off, some i => if i < n then some (.ptr b j (off + i * z), H) else none
    | .eptr cs, some i => if i < n then some (.eptr (cs.drop (i * z)), H) else none
    | _, _ => none
  | .index ag n z x i =>
    match getX E x, natOf (getX E i) with
    | .agg cs, some i => if i < n then (wrapC ag z (cs.drop (i * z))).map fun v => (v, H) else none
    | _, _ => none
  | .sindex x i =>
    match getX E x, natOf (getX E i) with
    | .str s, some i =>
      match s[i]? with
      | some b => some (.int .u8 b.toNat, H)
      | none => none
    | _, _ => none
  | .extract i x =>
    match getX E x with
    | .tup vs => (vs[i]?).map fun v => (v, H)
    | _ => none
  | .len x =>
    match getX E x with
    | .sl l => some (.int .i64 l.length, H)
    | .nil => some (.int .i64 0, H)
    | .emp => some (.int .i64 0, H)
    | .ref _ _ _ len => some (.int .i64 len, H)
    | _ => none
  | .lenc n _ => some (.int .i64 n, H)
  | .capn x =>
    match getX E x with
    | .nil => some (.int .i64 0, H)
    | _ => none
  | .append z bytes x y =>
    (elems H (getX E y)).bind fun ys =>
      if headOk z ys = true then
        match getX E x with
        | .nil =>
          if ys = [] then some (.nil, H)
          else if appendLimit ys.length bytes = true then some (.ref H.length z 0 ys.length, H ++ [some ⟨z, ys, true, true⟩]) else none
        | .ref b z' off len =>
          match H[b]? with
          | some (some k) =>
            if k.arr = true ∧ k.wr = true ∧ k.z = z ∧ z' = z ∧ off + len ≤ k.el.length ∧ appendLimit (len + ys.length) bytes = true then
              if ys = [] then some (.ref b z' off len, H)
              else some (.ref H.length z 0 (len + ys.length), H.set b none ++ [some ⟨z, (k.el.drop off).take len ++ ys, true, true⟩])
            else none
          | _ => none
        | _ => none
      else none
  | .appendZ z bytes zero x n =>
    match getX E x, natOf (getX E n) with
    | .nil, some m =>
      if 0 < m ∧ m * bytes ≤ 140737488355328 ∧ m ≤ 9223372036854775807 ∧ zero.cells.length = z ∧ zero.pure = true then some (.ref H.length z 0 m, H ++ [some ⟨z, List.replicate m zero, true, true⟩]) else none
    | _, _ => none
  | .copy z x y =>
    match getX E x with
    | .ref b z' off len =>
      (elems H (getX E y)).bind fun ys =>
        match H[b]? with
        | some (some k) =>
          if k.arr = true ∧ k.wr = true ∧ k.z = z ∧ z' = z ∧ headOk z ys = true ∧ off + len ≤ k.el.length then
            some (.int .i64 (Nat.min ys.length len), H.set b (some { k with el := splice k.el off (ys.take len) }))
          else none
        | _ => none
    | _ => none
  | .min x y =>
    match getX E x, getX E y with
    | .int k a, .int k' b => if k = k' then some (.int k (if b < a then b else a), H) else none
    | _, _ => none
  | .max x y =>
    match getX E x, getX E y with
    | .int k a, .int k' b => if k = k' then some (.int k (if a < b then b else a), H) else none
    | _, _ => none
  | .max3 x y z =>
    match getX E x, getX E y, getX E z with
    | .int k a, .int k' b, .int k'' c => if k = k' ∧ k = k'' then some (.int k (if (if a < b then b else a) < c then c else if a < b then b else a), H) else none
    | _, _, _ => none
  | .call _ _ => none

def gd (o : AOper) (E : Env) : Option Bool :=
  match o.guard with
  | none => some true
  | some (t, want) =>
    match E t with
    | .bool b => some (b == want)
    | .tup _ => some false
    | _ => none

def E0 (args : List V) : Env := fun i => args.getD i .undef

def resV1 (E : Env) (H : Heap) : RV → Option V
  | .tmp t => some (E t)
  | .cell t ag z => (stp 0 (.load ag z (.t t)) E H).map (·.1)

def resVs (E : Env) (H : Heap) : List RV → Option (List V)
  | [] => some []
  | r :: rs => (resV1 E H r).bind fun v => (resVs E H rs).bind fun vs => some (v :: vs)

def resV (E : Env) (H : Heap) (rs : List RV) : Option V :=
  (resVs E H rs).map fun vs => match vs with
    | [v] => v
    | vs => .tup vs

/-- A result that keeps its slices to be written on: each lies in a block of its own behind the elder ones. -/
def ownC (n0 : Nat) (H : Heap) (acc : Heap) : V → Option (V × Heap × Heap)
  | .ref b z off len =>
    match H[b]? with
    | some (some k) =>
      if n0 ≤ b ∧ k.arr = true ∧ k.wr = true ∧ k.z = z ∧ off + len ≤ k.el.length then
        some (.ref (n0 + acc.length) z 0 len, H.set b none, acc ++ [some { k with el := (k.el.drop off).take len }])
      else none
    | _ => none
  | c => (frzC H c).bind fun (c', H1) => if c'.cellPure = true then some (c', H1, acc) else none

def ownCs (n0 : Nat) (H acc : Heap) : List V → Option (List V × Heap × Heap)
  | [] => some ([], H, acc)
  | c :: cs => (ownC n0 H acc c).bind fun (c', H1, acc1) => (ownCs n0 H1 acc1 cs).bind fun (cs', H2, acc2) => some (c' :: cs', H2, acc2)

def ownV (n0 : Nat) (H acc : Heap) : V → Option (V × Heap × Heap)
  | .agg cs => (ownCs n0 H acc cs).bind fun (cs', H1, acc1) => some (.agg cs', H1, acc1)
  | v => ownC n0 H acc v

def ownVs (n0 : Nat) (H acc : Heap) : List V → Option (List V × Heap × Heap)
  | [] => some ([], H, acc)
  | v :: vs => (ownV n0 H acc v).bind fun (v', H1, acc1) => (ownVs n0 H1 acc1 vs).bind fun (vs', H2, acc2) => some (v' :: vs', H2, acc2)

def fin (own : Bool) (n0 : Nat) (H : Heap) (v : V) : Option (V × Heap) :=
  if own then
    match v with
    | .tup vs => (ownVs n0 H [] vs).bind fun (vs', H1, acc) => some (.tup vs', H1.take n0 ++ acc)
    | v => (ownV n0 H [] v).bind fun (v', H1, acc) => some (v', H1.take n0 ++ acc)
  else
    match v with
    | .tup vs => (pureIns H vs).bind fun (vs', H1) => some (.tup vs', H1.take n0)
    | v => (pureIn H v).bind fun (v', H1) => some (v', H1.take n0)

inductive AX where
  | normal
  | exit (id : Nat)
  | ret
  deriving DecidableEq

def AX.outOf (id : Nat) : AX → AX
  | .exit id' => if id' = id then .normal else .exit id'
  | x => x

inductive Task where
  | call (g : Nat) (args : List V) (H : Heap)
  | code (n0 : Nat) (c : AC) (E : Env) (H : Heap)
  | ops (n0 : Nat) (draw : Bool) (l : List AOper) (E : Env) (H : Heap)

inductive Res where
  | ret (v : V) (H : Heap)
  | cd (x : AX) (E : Env) (H : Heap)

def prep (S : AProg) (g : Nat) (H : Heap) (args : List V) : Option (List V × Heap) :=
  match S.fn g with
  | some f => if f.raw then some (args, H) else frzVs H args
  | none => frzVs H args

inductive Ev (S : AProg) : Task → Res → Prop
  | skip {n0 E H} : Ev S (.code n0 .skip E H) (.cd .normal E H)
  | seqN {n0 a b E H E1 H1 r} : Ev S (.code n0 a E H) (.cd .normal E1 H1) → Ev S (.code n0 b E1 H1) r → Ev S (.code n0 (.seq a b) E H) r
  | seqX {n0 a b E H x E1 H1} : Ev S (.code n0 a E H) (.cd x E1 H1) → x ≠ .normal → Ev S (.code n0 (.seq a b) E H) (.cd x E1 H1)
  | cond {n0 c a b E H t r} : getX E c = .bool t → Ev S (.code n0 (if t then a else b) E H) r → Ev S (.code n0 (.cond c a b) E H) r
  | block {n0 id c E H x E1 H1} : Ev S (.code n0 c E H) (.cd x E1 H1) → Ev S (.code n0 (.block id c) E H) (.cd (x.outOf id) E1 H1)
  | loopN {n0 c E H E1 H1 r} : Ev S (.code n0 c E H) (.cd .normal E1 H1) → Ev S (.code n0 (.loop c) E1 H1) r → Ev S (.code n0 (.loop c) E H) r
  | loopX {n0 c E H x E1 H1} : Ev S (.code n0 c E H) (.cd x E1 H1) → x ≠ .normal → Ev S (.code n0 (.loop c) E H) (.cd x E1 H1)
  | exit {n0 id E H} : Ev S (.code n0 (.exit id) E H) (.cd (.exit id) E H)
  | ret {n0 E H} : Ev S (.code n0 .ret E H) (.cd .ret E H)
  | region {n0 d l E H E1 H1} : Ev S (.ops n0 d l E H) (.cd .normal E1 H1) → Ev S (.code n0 (.region d l) E H) (.cd .normal E1 H1)
  | opNil {n0 d E H} : Ev S (.ops n0 d [] E H) (.cd .normal E H)
  | opSkip {n0 d o l E H r} : gd o E = some false → Ev S (.ops n0 d l (put E o.dst .undef) H) r → Ev S (.ops n0 d (o :: l) E H) r
  | opDo {n0 d o l E H v H1 r} : gd o E = some true → stp n0 o.op E H = some (v, H1) → (d = true → o.sync = false → H <+: H1) →
      Ev S (.ops n0 d l (put E o.dst v) H1) r → Ev S (.ops n0 d (o :: l) E H) r
  | opCall {n0 d o l E H x xs g caps vs H1 v H2 r} : gd o E = some true → o.op = .call x xs → getX E x = .fn g caps →
      prep S g H (xs.map (getX E) ++ caps) = some (vs, H1) → Ev S (.call g vs H1) (.ret v H2) → (d = true → o.sync = false → H <+: H2) →
      Ev S (.ops n0 d l (put E o.dst v) H2) r → Ev S (.ops n0 d (o :: l) E H) r
  | call {g f args H x E1 H1 v0 v H2} : S.fn g = some f → Ev S (.code H.length f.body (E0 args) H) (.cd x E1 H1) → (x = .normal ∨ x = .ret) →
      resV E1 H1 f.results = some v0 → fin f.own H.length H1 v0 = some (v, H2) → Ev S (.call g args H) (.ret v H2)
  | emp {g pre post H r} : Ev S (.call g (pre ++ .nil :: post) H) r → Ev S (.call g (pre ++ .emp :: post) H) r → Ev S (.call g (pre ++ .sl [] :: post) H) r
  | prim {g args H v} : S.prim g args = some v → Ev S (.call g args H) (.ret v H)

end Go.Abs
/- MADE BY A PROGRAM (wip/tools/dump.sh, mkcode.py): the abstract code of the functions that this seat reaches. -/
namespace Go.Abs

def str_0 : ByteArray := ⟨#[0, 1, 2, 2, 3, 3, 3, 3, 4, 4, 4, 4, 4, 4, 4, 4, 5, 5, 5, 5, 5, 5, 5, 5, 5, 5, 5, 5, 5, 5, 5, 5, 6, 6, 6, 6, 6, 6, 6, 6, 6, 6, 6, 6, 6, 6, 6, 6, 6, 6, 6, 6, 6, 6, 6, 6, 6, 6, 6, 6, 6, 6, 6, 6, 7, 7, 7, 7, 7, 7, 7, 7, 7, 7, 7, 7, 7, 7, 7, 7, 7, 7, 7, 7, 7, 7, 7, 7, 7, 7, 7, 7, 7, 7, 7, 7, 7, 7, 7, 7, 7, 7, 7, 7, 7, 7, 7, 7, 7, 7, 7, 7, 7, 7, 7, 7, 7, 7, 7, 7, 7, 7, 7, 7, 7, 7, 7, 7, 8, 8, 8, 8, 8, 8, 8, 8, 8, 8, 8, 8, 8, 8, 8, 8, 8, 8, 8, 8, 8, 8, 8, 8, 8, 8, 8, 8, 8, 8, 8, 8, 8, 8, 8, 8, 8, 8, 8, 8, 8, 8, 8, 8, 8, 8, 8, 8, 8, 8, 8, 8, 8, 8, 8, 8, 8, 8, 8, 8, 8, 8, 8, 8, 8, 8, 8, 8, 8, 8, 8, 8, 8, 8, 8, 8, 8, 8, 8, 8, 8, 8, 8, 8, 8, 8, 8, 8, 8, 8, 8, 8, 8, 8, 8, 8, 8, 8, 8, 8, 8, 8, 8, 8, 8, 8, 8, 8, 8, 8, 8, 8, 8, 8, 8, 8, 8, 8, 8, 8, 8, 8, 8, 8, 8, 8, 8, 8]⟩

end Go.Abs
/- MADE BY A PROGRAM (wip/tools/dump.sh, mkcode.py): the abstract code of the functions that this seat reaches. -/
namespace Go.Abs

/- fplaw37_PipeCuts -/
@[simp] def c_fplaw37_PipeCuts_r0 : List AOper :=
  [⟨(some 3), (.box 2 (.t 0)), none, false⟩,
   ⟨(some 4), (.box 3 (.t 1)), none, false⟩,
   ⟨(some 5), (.box 3 (.t 2)), none, false⟩,
   ⟨(some 6), (.mv (.c (.bool false))), none, false⟩]
@[simp] def c_fplaw37_PipeCuts_r1 : List AOper :=
  [⟨(some 13), (.call (.f 7) []), none, false⟩,
   ⟨(some 14), (.un .not (.t 13)), none, false⟩]
@[simp] def c_fplaw37_PipeCuts_r2 : List AOper :=
  [⟨(some 6), (.mv (.c (.bool false))), none, false⟩]
@[simp] def c_fplaw37_PipeCuts_r3 : List AOper :=
  [⟨(some 15), (.load true 2 (.t 3)), none, false⟩,
   ⟨(some 16), (.bslice 2 1 (.agg [.nil, .nil]) [(0, (.t 15))]), none, false⟩,
   ⟨(some 17), (.call (.f 8) [(.t 16)]), none, false⟩,
   ⟨(some 18), (.mv (.t 17)), none, false⟩,
   ⟨(some 19), (.load true 3 (.t 4)), (some (18, false)), false⟩,
   ⟨(some 20), (.call (.f 9) [(.t 19)]), (some (18, false)), false⟩,
   ⟨(some 21), (.pick (.t 18) (.c (.bool true)) (.t 20)), none, false⟩,
   ⟨(some 22), (.mv (.t 21)), none, false⟩,
   ⟨(some 23), (.load true 3 (.t 5)), (some (22, false)), false⟩,
   ⟨(some 24), (.call (.f 9) [(.t 23)]), (some (22, false)), false⟩,
   ⟨(some 25), (.pick (.t 22) (.c (.bool true)) (.t 24)), none, false⟩]
@[simp] def c_fplaw37_PipeCuts_r4 : List AOper :=
  [⟨(some 6), (.mv (.c (.bool true))), none, false⟩]
@[simp] def c_fplaw37_PipeCuts_r5 : List AOper :=
  [⟨(some 27), (.load true 2 (.t 3)), none, false⟩,
   ⟨(some 28), (.load true 3 (.t 4)), none, false⟩,
   ⟨(some 29), (.call (.f 10) [(.t 27), (.t 28)]), none, false⟩,
   ⟨(some 26), (.mv (.t 29)), none, false⟩,
   ⟨(some 30), (.extract 0 (.t 26)), none, false⟩,
   ⟨(some 31), (.extract 1 (.t 26)), none, false⟩,
   ⟨(some 7), (.new 2 (.agg [.nil, .nil])), none, false⟩,
   ⟨none, (.store 2 (.t 7) (.t 30)), none, false⟩,
   ⟨(some 8), (.mv (.t 31)), none, false⟩]
@[simp] def c_fplaw37_PipeCuts_r6 : List AOper :=
  [⟨(some 32), (.load true 2 (.t 3)), none, false⟩,
   ⟨(some 33), (.call (.f 11) [(.t 32)]), none, false⟩,
   ⟨(some 34), (.un .not (.t 33)), none, false⟩,
   ⟨(some 35), (.mv (.t 34)), none, false⟩,
   ⟨(some 36), (.load true 3 (.t 4)), (some (35, false)), false⟩,
   ⟨(some 37), (.call (.f 12) [(.t 36)]), (some (35, false)), false⟩,
   ⟨(some 38), (.un .not (.t 37)), (some (35, false)), false⟩,
   ⟨(some 39), (.pick (.t 35) (.c (.bool true)) (.t 38)), none, false⟩]
@[simp] def c_fplaw37_PipeCuts_r7 : List AOper :=
  [⟨(some 40), (.mv (.t 8)), none, false⟩,
   ⟨(some 41), (.bin .num .eql (.t 40) (.c (.int .i64 1))), none, false⟩,
   ⟨(some 42), (.mv (.t 41)), none, false⟩,
   ⟨(some 43), (.load true 2 (.t 7)), (some (42, true)), false⟩,
   ⟨(some 44), (.call (.f 13) [(.t 43)]), (some (42, true)), false⟩,
   ⟨(some 45), (.pick (.t 42) (.t 44) (.c (.bool false))), none, false⟩,
   ⟨(some 6), (.mv (.t 45)), none, false⟩]
@[simp] def c_fplaw37_PipeCuts_r8 : List AOper :=
  [⟨(some 46), (.load true 2 (.t 3)), none, false⟩,
   ⟨(some 47), (.load true 3 (.t 4)), none, false⟩,
   ⟨(some 48), (.call (.f 14) [(.t 46), (.t 47)]), none, false⟩,
   ⟨(some 49), (.un .not (.t 48)), none, false⟩]
@[simp] def c_fplaw37_PipeCuts_r9 : List AOper :=
  [⟨(some 50), (.mv (.t 8)), none, false⟩,
   ⟨(some 51), (.bin .num .eql (.t 50) (.c (.int .i64 2))), none, false⟩,
   ⟨(some 52), (.mv (.t 51)), none, false⟩,
   ⟨(some 53), (.load true 2 (.t 7)), (some (52, true)), false⟩,
   ⟨(some 54), (.call (.f 13) [(.t 53)]), (some (52, true)), false⟩,
   ⟨(some 55), (.pick (.t 52) (.t 54) (.c (.bool false))), none, false⟩,
   ⟨(some 6), (.mv (.t 55)), none, false⟩]
@[simp] def c_fplaw37_PipeCuts_r10 : List AOper :=
  [⟨(some 56), (.mv (.t 8)), none, false⟩,
   ⟨(some 57), (.bin .num .neq (.t 56) (.c (.int .i64 0))), none, false⟩,
   ⟨(some 58), (.mv (.t 57)), none, false⟩,
   ⟨(some 59), (.load true 2 (.t 7)), (some (58, false)), false⟩,
   ⟨(some 60), (.load true 2 (.t 3)), (some (58, false)), false⟩,
   ⟨(some 61), (.load true 3 (.t 4)), (some (58, false)), false⟩,
   ⟨(some 62), (.call (.f 16) [(.t 60), (.t 61)]), (some (58, false)), false⟩,
   ⟨(some 63), (.call (.f 15) [(.t 59), (.t 62)]), (some (58, false)), true⟩,
   ⟨(some 64), (.un .not (.t 63)), (some (58, false)), false⟩,
   ⟨(some 65), (.pick (.t 58) (.c (.bool true)) (.t 64)), none, false⟩,
   ⟨(some 66), (.mv (.t 65)), none, false⟩,
   ⟨(some 67), (.load true 2 (.t 7)), (some (66, false)), false⟩,
   ⟨(some 68), (.call (.f 17) [(.t 67)]), (some (66, false)), true⟩,
   ⟨(some 69), (.un .not (.t 68)), (some (66, false)), false⟩,
   ⟨(some 70), (.pick (.t 66) (.c (.bool true)) (.t 69)), none, false⟩]
@[simp] def c_fplaw37_PipeCuts_r11 : List AOper :=
  [⟨(some 6), (.mv (.c (.bool false))), none, false⟩]
@[simp] def c_fplaw37_PipeCuts_r12 : List AOper :=
  [⟨(some 71), (.load true 3 (.t 5)), none, false⟩,
   ⟨(some 72), (.call (.f 12) [(.t 71)]), none, false⟩,
   ⟨(some 73), (.un .not (.t 72)), none, false⟩,
   ⟨(some 74), (.mv (.t 73)), none, false⟩,
   ⟨(some 75), (.load true 2 (.t 3)), (some (74, false)), false⟩,
   ⟨(some 76), (.load true 3 (.t 5)), (some (74, false)), false⟩,
   ⟨(some 77), (.call (.f 14) [(.t 75), (.t 76)]), (some (74, false)), false⟩,
   ⟨(some 78), (.un .not (.t 77)), (some (74, false)), false⟩,
   ⟨(some 79), (.pick (.t 74) (.c (.bool true)) (.t 78)), none, false⟩,
   ⟨(some 80), (.mv (.t 79)), none, false⟩,
   ⟨(some 81), (.load true 3 (.t 5)), (some (80, false)), false⟩,
   ⟨(some 82), (.load true 3 (.t 4)), (some (80, false)), false⟩,
   ⟨(some 83), (.call (.f 18) [(.t 81), (.t 82)]), (some (80, false)), false⟩,
   ⟨(some 84), (.bin .num .geq (.t 83) (.c (.int .i64 0))), (some (80, false)), false⟩,
   ⟨(some 85), (.pick (.t 80) (.c (.bool true)) (.t 84)), none, false⟩]
@[simp] def c_fplaw37_PipeCuts_r13 : List AOper :=
  [⟨(some 6), (.mv (.c (.bool true))), none, false⟩]
@[simp] def c_fplaw37_PipeCuts_r14 : List AOper :=
  [⟨(some 87), (.load true 2 (.t 7)), none, false⟩,
   ⟨(some 88), (.load true 3 (.t 5)), none, false⟩,
   ⟨(some 89), (.call (.f 19) [(.t 87), (.t 88)]), none, false⟩,
   ⟨(some 86), (.mv (.t 89)), none, false⟩,
   ⟨(some 90), (.extract 0 (.t 86)), none, false⟩,
   ⟨(some 91), (.extract 1 (.t 86)), none, false⟩,
   ⟨(some 9), (.mv (.t 90)), none, false⟩,
   ⟨(some 10), (.mv (.t 91)), none, false⟩]
@[simp] def c_fplaw37_PipeCuts_r15 : List AOper :=
  [⟨(some 93), (.load true 2 (.t 3)), none, false⟩,
   ⟨(some 94), (.load true 3 (.t 5)), none, false⟩,
   ⟨(some 95), (.call (.f 19) [(.t 93), (.t 94)]), none, false⟩,
   ⟨(some 92), (.mv (.t 95)), none, false⟩,
   ⟨(some 96), (.extract 0 (.t 92)), none, false⟩,
   ⟨(some 97), (.extract 1 (.t 92)), none, false⟩,
   ⟨(some 11), (.mv (.t 96)), none, false⟩,
   ⟨(some 12), (.mv (.t 97)), none, false⟩]
@[simp] def c_fplaw37_PipeCuts_r16 : List AOper :=
  [⟨(some 98), (.mv (.t 10)), none, false⟩,
   ⟨(some 99), (.bin .num .eql (.t 98) (.c (.int .i64 0))), none, false⟩,
   ⟨(some 100), (.mv (.t 99)), none, false⟩,
   ⟨(some 101), (.mv (.t 12)), (some (100, true)), false⟩,
   ⟨(some 102), (.bin .num .eql (.t 101) (.c (.int .i64 0))), (some (100, true)), false⟩,
   ⟨(some 103), (.pick (.t 100) (.t 102) (.c (.bool false))), none, false⟩,
   ⟨(some 104), (.mv (.t 103)), none, false⟩,
   ⟨(some 105), (.mv (.t 9)), (some (104, true)), false⟩,
   ⟨(some 106), (.mv (.t 11)), (some (104, true)), false⟩,
   ⟨(some 107), (.call (.f 20) [(.t 105), (.t 106)]), (some (104, true)), false⟩,
   ⟨(some 108), (.pick (.t 104) (.t 107) (.c (.bool false))), none, false⟩,
   ⟨(some 6), (.mv (.t 108)), none, false⟩]
@[simp] def c_fplaw37_PipeCuts : AFn := ⟨[(.tmp 6)],
  (.seq (.region false c_fplaw37_PipeCuts_r0) (.seq (.seq (.region false c_fplaw37_PipeCuts_r1) (.cond (.t 14) (.seq (.region false c_fplaw37_PipeCuts_r2) .ret) .skip)) (.seq (.seq (.region false c_fplaw37_PipeCuts_r3) (.cond (.t 25) (.seq (.region false c_fplaw37_PipeCuts_r4) .ret) .skip)) (.seq (.region false c_fplaw37_PipeCuts_r5) (.seq (.seq (.region false c_fplaw37_PipeCuts_r6) (.cond (.t 39) (.seq (.region false c_fplaw37_PipeCuts_r7) .ret) .skip)) (.seq (.seq (.region false c_fplaw37_PipeCuts_r8) (.cond (.t 49) (.seq (.region false c_fplaw37_PipeCuts_r9) .ret) .skip)) (.seq (.seq (.region true c_fplaw37_PipeCuts_r10) (.cond (.t 70) (.seq (.region false c_fplaw37_PipeCuts_r11) .ret) .skip)) (.seq (.seq (.region false c_fplaw37_PipeCuts_r12) (.cond (.t 85) (.seq (.region false c_fplaw37_PipeCuts_r13) .ret) .skip)) (.seq (.region false c_fplaw37_PipeCuts_r14) (.seq (.region false c_fplaw37_PipeCuts_r15) (.seq (.region false c_fplaw37_PipeCuts_r16) .ret))))))))))),
  false, false⟩

/- fplaw37_PipeValid -/
@[simp] def c_fplaw37_PipeValid_r0 : List AOper :=
  [⟨(some 2), (.box 2 (.t 0)), none, false⟩,
   ⟨(some 3), (.box 1 (.t 1)), none, false⟩,
   ⟨(some 4), (.new 1 (.bool false)), none, false⟩]
@[simp] def c_fplaw37_PipeValid_r1 : List AOper :=
  [⟨(some 11), (.call (.f 7) []), none, false⟩,
   ⟨(some 12), (.un .not (.t 11)), none, false⟩]
@[simp] def c_fplaw37_PipeValid_r2 : List AOper :=
  [⟨none, (.store 1 (.t 4) (.c (.bool false))), none, false⟩]
@[simp] def c_fplaw37_PipeValid_r3 : List AOper :=
  [⟨(some 13), (.load true 2 (.t 2)), none, false⟩,
   ⟨(some 14), (.bslice 2 1 (.agg [.nil, .nil]) [(0, (.t 13))]), none, false⟩,
   ⟨(some 15), (.call (.f 8) [(.t 14)]), none, false⟩]
@[simp] def c_fplaw37_PipeValid_r4 : List AOper :=
  [⟨none, (.store 1 (.t 4) (.c (.bool true))), none, false⟩]
@[simp] def c_fplaw37_PipeValid_r5 : List AOper :=
  [⟨(some 16), (.load true 2 (.t 2)), none, false⟩,
   ⟨(some 17), (.call (.f 17) [(.t 16)]), none, false⟩,
   ⟨(some 18), (.load true 2 (.t 2)), none, false⟩,
   ⟨(some 19), (.call (.f 11) [(.t 18)]), none, true⟩,
   ⟨(some 20), (.bin .bool .neq (.t 17) (.t 19)), none, false⟩]
@[simp] def c_fplaw37_PipeValid_r6 : List AOper :=
  [⟨none, (.store 1 (.t 4) (.c (.bool false))), none, false⟩]
@[simp] def c_fplaw37_PipeValid_r7 : List AOper :=
  [⟨(some 22), (.load true 2 (.t 2)), none, false⟩,
   ⟨(some 23), (.call (.f 21) [(.t 22)]), none, false⟩,
   ⟨(some 21), (.mv (.t 23)), none, false⟩,
   ⟨(some 24), (.extract 0 (.t 21)), none, false⟩,
   ⟨(some 25), (.extract 1 (.t 21)), none, false⟩,
   ⟨(some 26), (.extract 2 (.t 21)), none, false⟩,
   ⟨(some 6), (.new 3 (.agg [(.bool false), .nil, (.int .i64 0)])), none, false⟩,
   ⟨(some 5), (.mv (.t 24)), none, false⟩,
   ⟨none, (.store 3 (.t 6) (.t 25)), none, false⟩,
   ⟨(some 7), (.mv (.t 26)), none, false⟩]
@[simp] def c_fplaw37_PipeValid_r8 : List AOper :=
  [⟨(some 8), (.new 1 (.int .i64 0)), none, false⟩,
   ⟨none, (.store 1 (.t 8) (.c (.int .i64 0))), none, false⟩]
@[simp] def c_fplaw37_PipeValid_r9 : List AOper :=
  [⟨(some 27), (.load true 2 (.t 2)), none, false⟩,
   ⟨(some 28), (.call (.f 22) [(.t 27)]), none, false⟩]
@[simp] def c_fplaw37_PipeValid_r10 : List AOper :=
  [⟨(some 59), (.load true 2 (.t 2)), none, false⟩,
   ⟨(some 60), (.call (.f 11) [(.t 59)]), none, false⟩,
   ⟨(some 61), (.un .not (.t 60)), none, false⟩]
@[simp] def c_fplaw37_PipeValid_r11 : List AOper :=
  [⟨(some 62), (.mv (.t 7)), none, false⟩,
   ⟨(some 63), (.bin .num .eql (.t 62) (.c (.int .i64 1))), none, false⟩,
   ⟨(some 64), (.mv (.t 63)), none, false⟩,
   ⟨(some 65), (.mv (.t 5)), (some (64, true)), false⟩,
   ⟨(some 66), (.len (.t 65)), (some (64, true)), false⟩,
   ⟨(some 67), (.bin .num .eql (.t 66) (.c (.int .i64 0))), (some (64, true)), false⟩,
   ⟨(some 68), (.pick (.t 64) (.t 67) (.c (.bool false))), none, false⟩,
   ⟨(some 69), (.mv (.t 68)), none, false⟩,
   ⟨(some 70), (.load false 1 (.t 8)), (some (69, true)), false⟩,
   ⟨(some 71), (.bin .num .eql (.t 70) (.c (.int .i64 0))), (some (69, true)), false⟩,
   ⟨(some 72), (.pick (.t 69) (.t 71) (.c (.bool false))), none, false⟩,
   ⟨none, (.store 1 (.t 4) (.t 72)), none, false⟩]
@[simp] def c_fplaw37_PipeValid_r12 : List AOper :=
  [⟨(some 73), (.load false 1 (.t 8)), none, false⟩,
   ⟨(some 74), (.faddr 1 (.t 2)), none, false⟩,
   ⟨(some 75), (.load false 1 (.t 74)), none, false⟩,
   ⟨(some 76), (.len (.t 75)), none, false⟩,
   ⟨(some 77), (.load false 1 (.t 3)), none, false⟩,
   ⟨(some 78), (.conv .i64 (.t 77)), none, false⟩,
   ⟨(some 79), (.min (.t 76) (.t 78)), none, false⟩,
   ⟨(some 80), (.bin .num .neq (.t 73) (.t 79)), none, false⟩]
@[simp] def c_fplaw37_PipeValid_r13 : List AOper :=
  [⟨none, (.store 1 (.t 4) (.c (.bool false))), none, false⟩]
@[simp] def c_fplaw37_PipeValid_r14 : List AOper :=
  [⟨(some 81), (.faddr 1 (.t 2)), none, false⟩,
   ⟨(some 82), (.load false 1 (.t 81)), none, false⟩,
   ⟨(some 83), (.len (.t 82)), none, false⟩,
   ⟨(some 84), (.bin .num .eql (.t 83) (.c (.int .i64 0))), none, false⟩]
@[simp] def c_fplaw37_PipeValid_r15 : List AOper :=
  [⟨(some 85), (.mv (.t 7)), none, false⟩,
   ⟨(some 86), (.bin .num .eql (.t 85) (.c (.int .i64 7))), none, false⟩,
   ⟨(some 87), (.mv (.t 86)), none, false⟩,
   ⟨(some 88), (.mv (.t 5)), (some (87, true)), false⟩,
   ⟨(some 89), (.len (.t 88)), (some (87, true)), false⟩,
   ⟨(some 90), (.bin .num .eql (.t 89) (.c (.int .i64 0))), (some (87, true)), false⟩,
   ⟨(some 91), (.pick (.t 87) (.t 90) (.c (.bool false))), none, false⟩,
   ⟨none, (.store 1 (.t 4) (.t 91)), none, false⟩]
@[simp] def c_fplaw37_PipeValid_r16 : List AOper :=
  [⟨(some 92), (.mv (.t 7)), none, false⟩,
   ⟨(some 93), (.bin .num .eql (.t 92) (.c (.int .i64 0))), none, false⟩,
   ⟨(some 94), (.mv (.t 93)), none, false⟩,
   ⟨(some 95), (.load true 3 (.t 6)), (some (94, true)), false⟩,
   ⟨(some 96), (.load true 2 (.t 2)), (some (94, true)), false⟩,
   ⟨(some 97), (.call (.f 24) [(.t 96)]), (some (94, true)), false⟩,
   ⟨(some 98), (.call (.f 23) [(.t 95), (.t 97)]), (some (94, true)), true⟩,
   ⟨(some 99), (.pick (.t 94) (.t 98) (.c (.bool false))), none, false⟩,
   ⟨(some 100), (.mv (.t 99)), none, false⟩,
   ⟨(some 101), (.mv (.t 5)), (some (100, true)), false⟩,
   ⟨(some 102), (.faddr 1 (.t 2)), (some (100, true)), false⟩,
   ⟨(some 103), (.load false 1 (.t 102)), (some (100, true)), false⟩,
   ⟨(some 104), (.faddr 1 (.t 2)), (some (100, true)), false⟩,
   ⟨(some 105), (.load false 1 (.t 104)), (some (100, true)), false⟩,
   ⟨(some 106), (.len (.t 105)), (some (100, true)), false⟩,
   ⟨(some 107), (.bin .num .sub (.t 106) (.c (.int .i64 1))), (some (100, true)), false⟩,
   ⟨(some 108), (.iaddr 8 (.t 103) (.t 107)), (some (100, true)), false⟩,
   ⟨(some 109), (.faddr 7 (.t 108)), (some (100, true)), false⟩,
   ⟨(some 110), (.load false 1 (.t 109)), (some (100, true)), false⟩,
   ⟨(some 111), (.call (.f 20) [(.t 101), (.t 110)]), (some (100, true)), true⟩,
   ⟨(some 112), (.pick (.t 100) (.t 111) (.c (.bool false))), none, false⟩,
   ⟨none, (.store 1 (.t 4) (.t 112)), none, true⟩]
@[simp] def c_fplaw37_PipeValid : AFn := ⟨[(.cell 4 false 1)],
  (.seq (.region false c_fplaw37_PipeValid_r0) (.seq (.seq (.region false c_fplaw37_PipeValid_r1) (.cond (.t 12) (.seq (.region false c_fplaw37_PipeValid_r2) .ret) .skip)) (.seq (.seq (.region false c_fplaw37_PipeValid_r3) (.cond (.t 15) (.seq (.region false c_fplaw37_PipeValid_r4) .ret) .skip)) (.seq (.seq (.region true c_fplaw37_PipeValid_r5) (.cond (.t 20) (.seq (.region false c_fplaw37_PipeValid_r6) .ret) .skip)) (.seq (.region false c_fplaw37_PipeValid_r7) (.seq (.region false c_fplaw37_PipeValid_r8) (.seq (.seq (.region false c_fplaw37_PipeValid_r9) (.block 0 .stop)) (.seq (.seq (.region false c_fplaw37_PipeValid_r10) (.cond (.t 61) (.seq (.region false c_fplaw37_PipeValid_r11) .ret) .skip)) (.seq (.seq (.region false c_fplaw37_PipeValid_r12) (.cond (.t 80) (.seq (.region false c_fplaw37_PipeValid_r13) .ret) .skip)) (.seq (.seq (.region false c_fplaw37_PipeValid_r14) (.cond (.t 84) (.seq (.region false c_fplaw37_PipeValid_r15) .ret) .skip)) (.seq (.region true c_fplaw37_PipeValid_r16) .ret))))))))))),
  false, false⟩

/- fplaw37_PipeJoins -/
@[simp] def c_fplaw37_PipeJoins_r0 : List AOper :=
  [⟨(some 2), (.box 2 (.t 0)), none, false⟩,
   ⟨(some 3), (.box 2 (.t 1)), none, false⟩,
   ⟨(some 4), (.mv (.c (.bool false))), none, false⟩]
@[simp] def c_fplaw37_PipeJoins_r1 : List AOper :=
  [⟨(some 10), (.call (.f 7) []), none, false⟩,
   ⟨(some 11), (.un .not (.t 10)), none, false⟩]
@[simp] def c_fplaw37_PipeJoins_r2 : List AOper :=
  [⟨(some 4), (.mv (.c (.bool false))), none, false⟩]
@[simp] def c_fplaw37_PipeJoins_r3 : List AOper :=
  [⟨(some 12), (.load true 2 (.t 2)), none, false⟩,
   ⟨(some 13), (.load true 2 (.t 3)), none, false⟩,
   ⟨(some 14), (.bslice 2 2 (.agg [.nil, .nil]) [(0, (.t 12)), (1, (.t 13))]), none, false⟩,
   ⟨(some 15), (.call (.f 8) [(.t 14)]), none, false⟩]
@[simp] def c_fplaw37_PipeJoins_r4 : List AOper :=
  [⟨(some 4), (.mv (.c (.bool true))), none, false⟩]
@[simp] def c_fplaw37_PipeJoins_r5 : List AOper :=
  [⟨(some 17), (.load true 2 (.t 2)), none, false⟩,
   ⟨(some 18), (.load true 2 (.t 3)), none, false⟩,
   ⟨(some 19), (.call (.f 25) [(.t 17), (.t 18)]), none, false⟩,
   ⟨(some 16), (.mv (.t 19)), none, false⟩,
   ⟨(some 20), (.extract 0 (.t 16)), none, false⟩,
   ⟨(some 21), (.extract 1 (.t 16)), none, false⟩,
   ⟨(some 5), (.new 2 (.agg [.nil, .nil])), none, false⟩,
   ⟨none, (.store 2 (.t 5) (.t 20)), none, false⟩,
   ⟨(some 6), (.mv (.t 21)), none, false⟩]
@[simp] def c_fplaw37_PipeJoins_r6 : List AOper :=
  [⟨(some 22), (.load true 2 (.t 2)), none, false⟩,
   ⟨(some 23), (.call (.f 11) [(.t 22)]), none, false⟩,
   ⟨(some 24), (.un .not (.t 23)), none, false⟩,
   ⟨(some 25), (.mv (.t 24)), none, false⟩,
   ⟨(some 26), (.load true 2 (.t 3)), (some (25, false)), false⟩,
   ⟨(some 27), (.call (.f 11) [(.t 26)]), (some (25, false)), false⟩,
   ⟨(some 28), (.un .not (.t 27)), (some (25, false)), false⟩,
   ⟨(some 29), (.pick (.t 25) (.c (.bool true)) (.t 28)), none, false⟩]
@[simp] def c_fplaw37_PipeJoins_r7 : List AOper :=
  [⟨(some 30), (.mv (.t 6)), none, false⟩,
   ⟨(some 31), (.bin .num .eql (.t 30) (.c (.int .i64 1))), none, false⟩,
   ⟨(some 32), (.mv (.t 31)), none, false⟩,
   ⟨(some 33), (.load true 2 (.t 5)), (some (32, true)), false⟩,
   ⟨(some 34), (.call (.f 13) [(.t 33)]), (some (32, true)), false⟩,
   ⟨(some 35), (.pick (.t 32) (.t 34) (.c (.bool false))), none, false⟩,
   ⟨(some 4), (.mv (.t 35)), none, false⟩]
@[simp] def c_fplaw37_PipeJoins_r8 : List AOper :=
  [⟨(some 36), (.faddr 1 (.t 2)), none, false⟩,
   ⟨(some 37), (.load false 1 (.t 36)), none, false⟩,
   ⟨(some 38), (.len (.t 37)), none, false⟩,
   ⟨(some 39), (.bin .num .eql (.t 38) (.c (.int .i64 0))), none, false⟩,
   ⟨(some 40), (.mv (.t 39)), none, false⟩,
   ⟨(some 41), (.faddr 1 (.t 3)), (some (40, false)), false⟩,
   ⟨(some 42), (.load false 1 (.t 41)), (some (40, false)), false⟩,
   ⟨(some 43), (.len (.t 42)), (some (40, false)), false⟩,
   ⟨(some 44), (.bin .num .eql (.t 43) (.c (.int .i64 0))), (some (40, false)), false⟩,
   ⟨(some 45), (.pick (.t 40) (.c (.bool true)) (.t 44)), none, false⟩,
   ⟨(some 46), (.mv (.t 45)), none, false⟩,
   ⟨(some 47), (.faddr 0 (.t 2)), (some (46, false)), false⟩,
   ⟨(some 48), (.load false 1 (.t 47)), (some (46, false)), false⟩,
   ⟨(some 49), (.len (.t 48)), (some (46, false)), false⟩,
   ⟨(some 50), (.faddr 0 (.t 3)), (some (46, false)), false⟩,
   ⟨(some 51), (.load false 1 (.t 50)), (some (46, false)), false⟩,
   ⟨(some 52), (.len (.t 51)), (some (46, false)), false⟩,
   ⟨(some 53), (.bin .num .neq (.t 49) (.t 52)), (some (46, false)), false⟩,
   ⟨(some 54), (.pick (.t 46) (.c (.bool true)) (.t 53)), none, false⟩,
   ⟨(some 55), (.mv (.t 54)), none, false⟩,
   ⟨(some 56), (.load true 2 (.t 2)), (some (55, false)), false⟩,
   ⟨(some 57), (.call (.f 24) [(.t 56)]), (some (55, false)), false⟩,
   ⟨(some 58), (.load true 2 (.t 3)), (some (55, false)), false⟩,
   ⟨(some 59), (.call (.f 26) [(.t 58)]), (some (55, false)), true⟩,
   ⟨(some 60), (.call (.f 23) [(.t 57), (.t 59)]), (some (55, false)), true⟩,
   ⟨(some 61), (.un .not (.t 60)), (some (55, false)), false⟩,
   ⟨(some 62), (.pick (.t 55) (.c (.bool true)) (.t 61)), none, false⟩,
   ⟨(some 63), (.mv (.t 62)), none, false⟩,
   ⟨(some 64), (.faddr 1 (.t 2)), (some (63, false)), false⟩,
   ⟨(some 65), (.load false 1 (.t 64)), (some (63, false)), false⟩,
   ⟨(some 66), (.faddr 1 (.t 2)), (some (63, false)), false⟩,
   ⟨(some 67), (.load false 1 (.t 66)), (some (63, false)), false⟩,
   ⟨(some 68), (.len (.t 67)), (some (63, false)), false⟩,
   ⟨(some 69), (.bin .num .sub (.t 68) (.c (.int .i64 1))), (some (63, false)), false⟩,
   ⟨(some 70), (.iaddr 8 (.t 65) (.t 69)), (some (63, false)), false⟩,
   ⟨(some 71), (.faddr 7 (.t 70)), (some (63, false)), false⟩,
   ⟨(some 72), (.load false 1 (.t 71)), (some (63, false)), false⟩,
   ⟨(some 73), (.faddr 0 (.t 3)), (some (63, false)), false⟩,
   ⟨(some 74), (.load false 1 (.t 73)), (some (63, false)), false⟩,
   ⟨(some 75), (.call (.f 27) [(.t 72), (.t 74)]), (some (63, false)), true⟩,
   ⟨(some 76), (.un .not (.t 75)), (some (63, false)), false⟩,
   ⟨(some 77), (.pick (.t 63) (.c (.bool true)) (.t 76)), none, false⟩]
@[simp] def c_fplaw37_PipeJoins_r9 : List AOper :=
  [⟨(some 78), (.mv (.t 6)), none, false⟩,
   ⟨(some 79), (.bin .num .eql (.t 78) (.c (.int .i64 6))), none, false⟩,
   ⟨(some 80), (.mv (.t 79)), none, false⟩,
   ⟨(some 81), (.load true 2 (.t 5)), (some (80, true)), false⟩,
   ⟨(some 82), (.call (.f 13) [(.t 81)]), (some (80, true)), false⟩,
   ⟨(some 83), (.pick (.t 80) (.t 82) (.c (.bool false))), none, false⟩,
   ⟨(some 4), (.mv (.t 83)), none, false⟩]
@[simp] def c_fplaw37_PipeJoins_r10 : List AOper :=
  [⟨(some 84), (.faddr 0 (.t 2)), none, false⟩,
   ⟨(some 85), (.load false 1 (.t 84)), none, false⟩,
   ⟨(some 86), (.faddr 1 (.t 2)), none, false⟩,
   ⟨(some 87), (.load false 1 (.t 86)), none, false⟩,
   ⟨(some 88), (.faddr 1 (.t 3)), none, false⟩,
   ⟨(some 89), (.load false 1 (.t 88)), none, false⟩,
   ⟨(some 90), (.bslice 1 2 .nil [(0, (.t 87)), (1, (.t 89))]), none, false⟩,
   ⟨(some 91), (.call (.f 28) [(.t 90)]), none, false⟩,
   ⟨(some 92), (.build [.nil, .nil] [(0, 1, (.t 85)), (1, 1, (.t 91))]), none, false⟩,
   ⟨(some 7), (.new 2 (.agg [.nil, .nil])), none, false⟩,
   ⟨none, (.store 2 (.t 7) (.t 92)), none, true⟩]
@[simp] def c_fplaw37_PipeJoins_r11 : List AOper :=
  [⟨(some 94), (.load true 2 (.t 5)), none, false⟩,
   ⟨(some 95), (.load true 2 (.t 2)), none, false⟩,
   ⟨(some 96), (.call (.f 24) [(.t 95)]), none, false⟩,
   ⟨(some 97), (.call (.f 10) [(.t 94), (.t 96)]), none, false⟩,
   ⟨(some 93), (.mv (.t 97)), none, false⟩,
   ⟨(some 98), (.extract 0 (.t 93)), none, false⟩,
   ⟨(some 99), (.extract 1 (.t 93)), none, false⟩,
   ⟨(some 8), (.new 2 (.agg [.nil, .nil])), none, false⟩,
   ⟨none, (.store 2 (.t 8) (.t 98)), none, true⟩,
   ⟨(some 9), (.mv (.t 99)), none, false⟩]
@[simp] def c_fplaw37_PipeJoins_r12 : List AOper :=
  [⟨(some 100), (.mv (.t 6)), none, false⟩,
   ⟨(some 101), (.bin .num .eql (.t 100) (.c (.int .i64 0))), none, false⟩,
   ⟨(some 102), (.mv (.t 101)), none, false⟩,
   ⟨(some 103), (.load true 2 (.t 5)), (some (102, true)), false⟩,
   ⟨(some 104), (.load true 2 (.t 7)), (some (102, true)), false⟩,
   ⟨(some 105), (.call (.f 15) [(.t 103), (.t 104)]), (some (102, true)), false⟩,
   ⟨(some 106), (.pick (.t 102) (.t 105) (.c (.bool false))), none, false⟩,
   ⟨(some 107), (.mv (.t 106)), none, false⟩,
   ⟨(some 108), (.load true 2 (.t 5)), (some (107, true)), false⟩,
   ⟨(some 109), (.call (.f 17) [(.t 108)]), (some (107, true)), false⟩,
   ⟨(some 110), (.pick (.t 107) (.t 109) (.c (.bool false))), none, false⟩,
   ⟨(some 111), (.mv (.t 110)), none, false⟩,
   ⟨(some 112), (.mv (.t 9)), (some (111, true)), false⟩,
   ⟨(some 113), (.bin .num .eql (.t 112) (.c (.int .i64 0))), (some (111, true)), false⟩,
   ⟨(some 114), (.pick (.t 111) (.t 113) (.c (.bool false))), none, false⟩,
   ⟨(some 115), (.mv (.t 114)), none, false⟩,
   ⟨(some 116), (.load true 2 (.t 8)), (some (115, true)), false⟩,
   ⟨(some 117), (.load true 2 (.t 2)), (some (115, true)), false⟩,
   ⟨(some 118), (.call (.f 15) [(.t 116), (.t 117)]), (some (115, true)), false⟩,
   ⟨(some 119), (.pick (.t 115) (.t 118) (.c (.bool false))), none, false⟩,
   ⟨(some 4), (.mv (.t 119)), none, false⟩]
@[simp] def c_fplaw37_PipeJoins : AFn := ⟨[(.tmp 4)],
  (.seq (.region false c_fplaw37_PipeJoins_r0) (.seq (.seq (.region false c_fplaw37_PipeJoins_r1) (.cond (.t 11) (.seq (.region false c_fplaw37_PipeJoins_r2) .ret) .skip)) (.seq (.seq (.region false c_fplaw37_PipeJoins_r3) (.cond (.t 15) (.seq (.region false c_fplaw37_PipeJoins_r4) .ret) .skip)) (.seq (.region false c_fplaw37_PipeJoins_r5) (.seq (.seq (.region false c_fplaw37_PipeJoins_r6) (.cond (.t 29) (.seq (.region false c_fplaw37_PipeJoins_r7) .ret) .skip)) (.seq (.seq (.region true c_fplaw37_PipeJoins_r8) (.cond (.t 77) (.seq (.region false c_fplaw37_PipeJoins_r9) .ret) .skip)) (.seq (.region true c_fplaw37_PipeJoins_r10) (.seq (.region true c_fplaw37_PipeJoins_r11) (.seq (.region false c_fplaw37_PipeJoins_r12) .ret))))))))),
  false, false⟩

/- fplaw37_PipeFirst -/
@[simp] def c_fplaw37_PipeFirst_r0 : List AOper :=
  [⟨(some 2), (.box 2 (.t 0)), none, false⟩,
   ⟨(some 3), (.box 1 (.t 1)), none, false⟩,
   ⟨(some 4), (.mv (.c (.bool false))), none, false⟩]
@[simp] def c_fplaw37_PipeFirst_r1 : List AOper :=
  [⟨(some 8), (.call (.f 7) []), none, false⟩,
   ⟨(some 9), (.un .not (.t 8)), none, false⟩]
@[simp] def c_fplaw37_PipeFirst_r2 : List AOper :=
  [⟨(some 4), (.mv (.c (.bool false))), none, false⟩]
@[simp] def c_fplaw37_PipeFirst_r3 : List AOper :=
  [⟨(some 10), (.load true 2 (.t 2)), none, false⟩,
   ⟨(some 11), (.bslice 2 1 (.agg [.nil, .nil]) [(0, (.t 10))]), none, false⟩,
   ⟨(some 12), (.call (.f 8) [(.t 11)]), none, false⟩,
   ⟨(some 13), (.mv (.t 12)), none, false⟩,
   ⟨(some 14), (.load false 1 (.t 3)), (some (13, false)), false⟩,
   ⟨(some 15), (.call (.f 29) [(.t 14)]), (some (13, false)), false⟩,
   ⟨(some 16), (.pick (.t 13) (.c (.bool true)) (.t 15)), none, false⟩]
@[simp] def c_fplaw37_PipeFirst_r4 : List AOper :=
  [⟨(some 4), (.mv (.c (.bool true))), none, false⟩]
@[simp] def c_fplaw37_PipeFirst_r5 : List AOper :=
  [⟨(some 18), (.load true 2 (.t 2)), none, false⟩,
   ⟨(some 19), (.load false 1 (.t 3)), none, false⟩,
   ⟨(some 20), (.call (.f 30) [(.t 18), (.t 19)]), none, false⟩,
   ⟨(some 17), (.mv (.t 20)), none, false⟩,
   ⟨(some 21), (.extract 0 (.t 17)), none, false⟩,
   ⟨(some 22), (.extract 1 (.t 17)), none, false⟩,
   ⟨(some 5), (.mv (.t 21)), none, false⟩,
   ⟨(some 6), (.mv (.t 22)), none, false⟩]
@[simp] def c_fplaw37_PipeFirst_r6 : List AOper :=
  [⟨(some 23), (.load true 2 (.t 2)), none, false⟩,
   ⟨(some 24), (.call (.f 11) [(.t 23)]), none, false⟩,
   ⟨(some 25), (.un .not (.t 24)), none, false⟩,
   ⟨(some 26), (.mv (.t 25)), none, false⟩,
   ⟨(some 27), (.load false 1 (.t 3)), (some (26, false)), false⟩,
   ⟨(some 28), (.call (.f 31) [(.t 27)]), (some (26, false)), false⟩,
   ⟨(some 29), (.un .not (.t 28)), (some (26, false)), false⟩,
   ⟨(some 30), (.pick (.t 26) (.c (.bool true)) (.t 29)), none, false⟩,
   ⟨(some 31), (.mv (.t 30)), none, false⟩,
   ⟨(some 32), (.load false 1 (.t 3)), (some (31, false)), false⟩,
   ⟨(some 33), (.len (.t 32)), (some (31, false)), false⟩,
   ⟨(some 34), (.faddr 0 (.t 2)), (some (31, false)), false⟩,
   ⟨(some 35), (.load false 1 (.t 34)), (some (31, false)), false⟩,
   ⟨(some 36), (.len (.t 35)), (some (31, false)), false⟩,
   ⟨(some 37), (.bin .num .neq (.t 33) (.t 36)), (some (31, false)), false⟩,
   ⟨(some 38), (.pick (.t 31) (.c (.bool true)) (.t 37)), none, false⟩]
@[simp] def c_fplaw37_PipeFirst_r7 : List AOper :=
  [⟨(some 39), (.mv (.t 5)), none, false⟩,
   ⟨(some 40), (.bin .num .eql (.t 39) (.c (.int .i64 0))), none, false⟩,
   ⟨(some 41), (.mv (.t 40)), none, false⟩,
   ⟨(some 42), (.mv (.t 6)), (some (41, true)), false⟩,
   ⟨(some 43), (.un .not (.t 42)), (some (41, true)), false⟩,
   ⟨(some 44), (.pick (.t 41) (.t 43) (.c (.bool false))), none, false⟩,
   ⟨(some 4), (.mv (.t 44)), none, false⟩]
@[simp] def c_fplaw37_PipeFirst_r8 : List AOper :=
  [⟨(some 45), (.faddr 1 (.t 2)), none, false⟩,
   ⟨(some 46), (.load false 1 (.t 45)), none, false⟩,
   ⟨(some 47), (.mkfn 33 [(.t 3)]), none, false⟩,
   ⟨(some 48), (.call (.f 32) [(.t 46), (.t 47)]), none, false⟩,
   ⟨(some 7), (.mv (.t 48)), none, false⟩]
@[simp] def c_fplaw37_PipeFirst_r9 : List AOper :=
  [⟨(some 49), (.mv (.t 6)), none, false⟩,
   ⟨(some 50), (.mv (.t 7)), none, false⟩,
   ⟨(some 51), (.bin .num .geq (.t 50) (.c (.int .i64 0))), none, false⟩,
   ⟨(some 52), (.bin .bool .eql (.t 49) (.t 51)), none, false⟩,
   ⟨(some 53), (.mv (.t 52)), none, false⟩,
   ⟨(some 54), (.mv (.t 5)), (some (53, true)), false⟩,
   ⟨(some 55), (.mv (.t 7)), (some (53, true)), false⟩,
   ⟨(some 56), (.max (.t 55) (.c (.int .i64 0))), (some (53, true)), false⟩,
   ⟨(some 57), (.bin .num .eql (.t 54) (.t 56)), (some (53, true)), false⟩,
   ⟨(some 58), (.pick (.t 53) (.t 57) (.c (.bool false))), none, false⟩,
   ⟨(some 4), (.mv (.t 58)), none, false⟩]
@[simp] def c_fplaw37_PipeFirst : AFn := ⟨[(.tmp 4)],
  (.seq (.region false c_fplaw37_PipeFirst_r0) (.seq (.seq (.region false c_fplaw37_PipeFirst_r1) (.cond (.t 9) (.seq (.region false c_fplaw37_PipeFirst_r2) .ret) .skip)) (.seq (.seq (.region false c_fplaw37_PipeFirst_r3) (.cond (.t 16) (.seq (.region false c_fplaw37_PipeFirst_r4) .ret) .skip)) (.seq (.region false c_fplaw37_PipeFirst_r5) (.seq (.seq (.region false c_fplaw37_PipeFirst_r6) (.cond (.t 38) (.seq (.region false c_fplaw37_PipeFirst_r7) .ret) .skip)) (.seq (.region false c_fplaw37_PipeFirst_r8) (.seq (.region false c_fplaw37_PipeFirst_r9) .ret))))))),
  false, false⟩

/- fplaw37_PipeAt -/
@[simp] def c_fplaw37_PipeAt_r0 : List AOper :=
  [⟨(some 3), (.box 2 (.t 0)), none, false⟩,
   ⟨(some 4), (.box 3 (.t 1)), none, false⟩,
   ⟨(some 5), (.box 3 (.t 2)), none, false⟩,
   ⟨(some 6), (.mv (.c (.bool false))), none, false⟩]
@[simp] def c_fplaw37_PipeAt_r1 : List AOper :=
  [⟨(some 11), (.call (.f 7) []), none, false⟩,
   ⟨(some 12), (.un .not (.t 11)), none, false⟩]
@[simp] def c_fplaw37_PipeAt_r2 : List AOper :=
  [⟨(some 6), (.mv (.c (.bool false))), none, false⟩]
@[simp] def c_fplaw37_PipeAt_r3 : List AOper :=
  [⟨(some 13), (.load true 2 (.t 3)), none, false⟩,
   ⟨(some 14), (.bslice 2 1 (.agg [.nil, .nil]) [(0, (.t 13))]), none, false⟩,
   ⟨(some 15), (.call (.f 8) [(.t 14)]), none, false⟩,
   ⟨(some 16), (.mv (.t 15)), none, false⟩,
   ⟨(some 17), (.load true 3 (.t 4)), (some (16, false)), false⟩,
   ⟨(some 18), (.call (.f 9) [(.t 17)]), (some (16, false)), false⟩,
   ⟨(some 19), (.pick (.t 16) (.c (.bool true)) (.t 18)), none, false⟩,
   ⟨(some 20), (.mv (.t 19)), none, false⟩,
   ⟨(some 21), (.load true 3 (.t 5)), (some (20, false)), false⟩,
   ⟨(some 22), (.call (.f 9) [(.t 21)]), (some (20, false)), false⟩,
   ⟨(some 23), (.pick (.t 20) (.c (.bool true)) (.t 22)), none, false⟩]
@[simp] def c_fplaw37_PipeAt_r4 : List AOper :=
  [⟨(some 6), (.mv (.c (.bool true))), none, false⟩]
@[simp] def c_fplaw37_PipeAt_r5 : List AOper :=
  [⟨(some 25), (.load true 2 (.t 3)), none, false⟩,
   ⟨(some 26), (.load true 3 (.t 4)), none, false⟩,
   ⟨(some 27), (.call (.f 19) [(.t 25), (.t 26)]), none, false⟩,
   ⟨(some 24), (.mv (.t 27)), none, false⟩,
   ⟨(some 28), (.extract 0 (.t 24)), none, false⟩,
   ⟨(some 29), (.extract 1 (.t 24)), none, false⟩,
   ⟨(some 7), (.mv (.t 28)), none, false⟩,
   ⟨(some 8), (.mv (.t 29)), none, false⟩]
@[simp] def c_fplaw37_PipeAt_r6 : List AOper :=
  [⟨(some 31), (.load true 2 (.t 3)), none, false⟩,
   ⟨(some 32), (.load true 3 (.t 4)), none, false⟩,
   ⟨(some 33), (.load true 3 (.t 5)), none, false⟩,
   ⟨(some 34), (.call (.f 35) [(.t 31), (.t 32), (.t 33)]), none, false⟩,
   ⟨(some 30), (.mv (.t 34)), none, false⟩,
   ⟨(some 35), (.extract 0 (.t 30)), none, false⟩,
   ⟨(some 36), (.extract 1 (.t 30)), none, false⟩,
   ⟨(some 9), (.mv (.t 35)), none, false⟩,
   ⟨(some 10), (.mv (.t 36)), none, false⟩]
@[simp] def c_fplaw37_PipeAt_r7 : List AOper :=
  [⟨(some 48), (.load true 2 (.t 3)), none, false⟩,
   ⟨(some 49), (.call (.f 11) [(.t 48)]), none, false⟩,
   ⟨(some 50), (.un .not (.t 49)), none, false⟩,
   ⟨(some 51), (.mv (.t 50)), none, false⟩,
   ⟨(some 52), (.load true 3 (.t 4)), (some (51, false)), false⟩,
   ⟨(some 53), (.call (.f 12) [(.t 52)]), (some (51, false)), false⟩,
   ⟨(some 54), (.un .not (.t 53)), (some (51, false)), false⟩,
   ⟨(some 55), (.pick (.t 51) (.c (.bool true)) (.t 54)), none, false⟩,
   ⟨(some 47), (.mv (.t 55)), none, false⟩]
@[simp] def c_fplaw37_PipeAt_r8 : List AOper :=
  [⟨(some 56), (.mv (.t 8)), none, false⟩,
   ⟨(some 57), (.bin .num .eql (.t 56) (.c (.int .i64 1))), none, false⟩,
   ⟨(some 58), (.mv (.t 57)), none, false⟩,
   ⟨(some 59), (.mv (.t 7)), (some (58, true)), false⟩,
   ⟨(some 60), (.len (.t 59)), (some (58, true)), false⟩,
   ⟨(some 61), (.bin .num .eql (.t 60) (.c (.int .i64 0))), (some (58, true)), false⟩,
   ⟨(some 62), (.pick (.t 58) (.t 61) (.c (.bool false))), none, false⟩,
   ⟨(some 63), (.mv (.t 62)), none, false⟩,
   ⟨(some 64), (.mv (.t 10)), (some (63, true)), false⟩,
   ⟨(some 65), (.bin .num .eql (.t 64) (.c (.int .i64 1))), (some (63, true)), false⟩,
   ⟨(some 66), (.pick (.t 63) (.t 65) (.c (.bool false))), none, false⟩,
   ⟨(some 67), (.mv (.t 66)), none, false⟩,
   ⟨(some 68), (.mv (.t 9)), (some (67, true)), false⟩,
   ⟨(some 69), (.len (.t 68)), (some (67, true)), false⟩,
   ⟨(some 70), (.bin .num .eql (.t 69) (.c (.int .i64 0))), (some (67, true)), false⟩,
   ⟨(some 71), (.pick (.t 67) (.t 70) (.c (.bool false))), none, false⟩,
   ⟨(some 6), (.mv (.t 71)), none, false⟩]
@[simp] def c_fplaw37_PipeAt_r9 : List AOper :=
  [⟨(some 73), (.load true 2 (.t 3)), none, false⟩,
   ⟨(some 74), (.load true 3 (.t 4)), none, false⟩,
   ⟨(some 75), (.call (.f 14) [(.t 73), (.t 74)]), none, false⟩,
   ⟨(some 76), (.un .not (.t 75)), none, false⟩,
   ⟨(some 72), (.mv (.t 76)), none, false⟩]
@[simp] def c_fplaw37_PipeAt_r10 : List AOper :=
  [⟨(some 77), (.mv (.t 8)), none, false⟩,
   ⟨(some 78), (.bin .num .neq (.t 77) (.c (.int .i64 2))), none, false⟩,
   ⟨(some 79), (.mv (.t 78)), none, false⟩,
   ⟨(some 80), (.mv (.t 7)), (some (79, false)), false⟩,
   ⟨(some 81), (.len (.t 80)), (some (79, false)), false⟩,
   ⟨(some 82), (.bin .num .neq (.t 81) (.c (.int .i64 0))), (some (79, false)), false⟩,
   ⟨(some 83), (.pick (.t 79) (.c (.bool true)) (.t 82)), none, false⟩]
@[simp] def c_fplaw37_PipeAt_r11 : List AOper :=
  [⟨(some 6), (.mv (.c (.bool false))), none, false⟩]
@[simp] def c_fplaw37_PipeAt_r12 : List AOper :=
  [⟨(some 37), (.mv (.t 8)), none, false⟩,
   ⟨(some 38), (.bin .num .neq (.t 37) (.c (.int .i64 0))), none, false⟩,
   ⟨(some 39), (.mv (.t 38)), none, false⟩,
   ⟨(some 40), (.mv (.t 7)), (some (39, false)), false⟩,
   ⟨(some 41), (.load true 2 (.t 3)), (some (39, false)), false⟩,
   ⟨(some 42), (.load true 3 (.t 4)), (some (39, false)), false⟩,
   ⟨(some 43), (.call (.f 36) [(.t 41), (.t 42)]), (some (39, false)), false⟩,
   ⟨(some 44), (.call (.f 20) [(.t 40), (.t 43)]), (some (39, false)), false⟩,
   ⟨(some 45), (.un .not (.t 44)), (some (39, false)), false⟩,
   ⟨(some 46), (.pick (.t 39) (.c (.bool true)) (.t 45)), none, false⟩]
@[simp] def c_fplaw37_PipeAt_r13 : List AOper :=
  [⟨(some 6), (.mv (.c (.bool false))), none, false⟩]
@[simp] def c_fplaw37_PipeAt_r14 : List AOper :=
  [⟨(some 85), (.load true 3 (.t 5)), none, false⟩,
   ⟨(some 86), (.call (.f 12) [(.t 85)]), none, false⟩,
   ⟨(some 87), (.un .not (.t 86)), none, false⟩,
   ⟨(some 84), (.mv (.t 87)), none, false⟩]
@[simp] def c_fplaw37_PipeAt_r15 : List AOper :=
  [⟨(some 88), (.mv (.t 10)), none, false⟩,
   ⟨(some 89), (.bin .num .eql (.t 88) (.c (.int .i64 1))), none, false⟩,
   ⟨(some 90), (.mv (.t 89)), none, false⟩,
   ⟨(some 91), (.mv (.t 9)), (some (90, true)), false⟩,
   ⟨(some 92), (.len (.t 91)), (some (90, true)), false⟩,
   ⟨(some 93), (.bin .num .eql (.t 92) (.c (.int .i64 0))), (some (90, true)), false⟩,
   ⟨(some 94), (.pick (.t 90) (.t 93) (.c (.bool false))), none, false⟩,
   ⟨(some 6), (.mv (.t 94)), none, false⟩]
@[simp] def c_fplaw37_PipeAt_r16 : List AOper :=
  [⟨(some 96), (.load true 2 (.t 3)), none, false⟩,
   ⟨(some 97), (.load true 3 (.t 4)), none, false⟩,
   ⟨(some 98), (.call (.f 14) [(.t 96), (.t 97)]), none, false⟩,
   ⟨(some 99), (.un .not (.t 98)), none, false⟩,
   ⟨(some 100), (.mv (.t 99)), none, false⟩,
   ⟨(some 101), (.load true 2 (.t 3)), (some (100, false)), false⟩,
   ⟨(some 102), (.load true 3 (.t 5)), (some (100, false)), false⟩,
   ⟨(some 103), (.call (.f 14) [(.t 101), (.t 102)]), (some (100, false)), false⟩,
   ⟨(some 104), (.un .not (.t 103)), (some (100, false)), false⟩,
   ⟨(some 105), (.pick (.t 100) (.c (.bool true)) (.t 104)), none, false⟩,
   ⟨(some 106), (.mv (.t 105)), none, false⟩,
   ⟨(some 107), (.load true 3 (.t 4)), (some (106, false)), false⟩,
   ⟨(some 108), (.load true 3 (.t 5)), (some (106, false)), false⟩,
   ⟨(some 109), (.call (.f 18) [(.t 107), (.t 108)]), (some (106, false)), false⟩,
   ⟨(some 110), (.bin .num .gtr (.t 109) (.c (.int .i64 0))), (some (106, false)), false⟩,
   ⟨(some 111), (.pick (.t 106) (.c (.bool true)) (.t 110)), none, false⟩,
   ⟨(some 95), (.mv (.t 111)), none, false⟩]
@[simp] def c_fplaw37_PipeAt_r17 : List AOper :=
  [⟨(some 112), (.mv (.t 10)), none, false⟩,
   ⟨(some 113), (.bin .num .eql (.t 112) (.c (.int .i64 2))), none, false⟩,
   ⟨(some 114), (.mv (.t 113)), none, false⟩,
   ⟨(some 115), (.mv (.t 9)), (some (114, true)), false⟩,
   ⟨(some 116), (.len (.t 115)), (some (114, true)), false⟩,
   ⟨(some 117), (.bin .num .eql (.t 116) (.c (.int .i64 0))), (some (114, true)), false⟩,
   ⟨(some 118), (.pick (.t 114) (.t 117) (.c (.bool false))), none, false⟩,
   ⟨(some 6), (.mv (.t 118)), none, false⟩]
@[simp] def c_fplaw37_PipeAt_r18 : List AOper :=
  [⟨(some 119), (.mv (.t 10)), none, false⟩,
   ⟨(some 120), (.bin .num .eql (.t 119) (.c (.int .i64 0))), none, false⟩,
   ⟨(some 121), (.mv (.t 120)), none, false⟩,
   ⟨(some 122), (.mv (.t 9)), (some (121, true)), false⟩,
   ⟨(some 123), (.load true 2 (.t 3)), (some (121, true)), false⟩,
   ⟨(some 124), (.load true 3 (.t 4)), (some (121, true)), false⟩,
   ⟨(some 125), (.load true 3 (.t 5)), (some (121, true)), false⟩,
   ⟨(some 126), (.call (.f 37) [(.t 123), (.t 124), (.t 125)]), (some (121, true)), false⟩,
   ⟨(some 127), (.call (.f 20) [(.t 122), (.t 126)]), (some (121, true)), false⟩,
   ⟨(some 128), (.pick (.t 121) (.t 127) (.c (.bool false))), none, false⟩,
   ⟨(some 6), (.mv (.t 128)), none, false⟩]
@[simp] def c_fplaw37_PipeAt : AFn := ⟨[(.tmp 6)],
  (.seq (.region false c_fplaw37_PipeAt_r0) (.seq (.seq (.region false c_fplaw37_PipeAt_r1) (.cond (.t 12) (.seq (.region false c_fplaw37_PipeAt_r2) .ret) .skip)) (.seq (.seq (.region false c_fplaw37_PipeAt_r3) (.cond (.t 23) (.seq (.region false c_fplaw37_PipeAt_r4) .ret) .skip)) (.seq (.region false c_fplaw37_PipeAt_r5) (.seq (.region false c_fplaw37_PipeAt_r6) (.seq (.block 0 (.seq (.region false c_fplaw37_PipeAt_r7) (.cond (.t 47) (.seq (.region false c_fplaw37_PipeAt_r8) .ret) (.seq (.region false c_fplaw37_PipeAt_r9) (.cond (.t 72) (.seq (.region false c_fplaw37_PipeAt_r10) (.cond (.t 83) (.seq (.region false c_fplaw37_PipeAt_r11) .ret) .skip)) (.seq (.region false c_fplaw37_PipeAt_r12) (.cond (.t 46) (.seq (.region false c_fplaw37_PipeAt_r13) .ret) .skip))))))) (.seq (.block 1 (.seq (.region false c_fplaw37_PipeAt_r14) (.cond (.t 84) (.seq (.region false c_fplaw37_PipeAt_r15) .ret) (.seq (.region false c_fplaw37_PipeAt_r16) (.cond (.t 95) (.seq (.region false c_fplaw37_PipeAt_r17) .ret) .skip))))) (.seq (.region false c_fplaw37_PipeAt_r18) .ret)))))))),
  false, false⟩

/- fplaw37_PipeOver -/
@[simp] def c_fplaw37_PipeOver_r0 : List AOper :=
  [⟨(some 4), (.box 2 (.t 0)), none, false⟩,
   ⟨(some 5), (.box 3 (.t 1)), none, false⟩,
   ⟨(some 6), (.box 3 (.t 2)), none, false⟩,
   ⟨(some 7), (.box 3 (.t 3)), none, false⟩,
   ⟨(some 8), (.mv (.c (.bool false))), none, false⟩]
@[simp] def c_fplaw37_PipeOver_r1 : List AOper :=
  [⟨(some 13), (.call (.f 7) []), none, false⟩,
   ⟨(some 14), (.un .not (.t 13)), none, false⟩]
@[simp] def c_fplaw37_PipeOver_r2 : List AOper :=
  [⟨(some 8), (.mv (.c (.bool false))), none, false⟩]
@[simp] def c_fplaw37_PipeOver_r3 : List AOper :=
  [⟨(some 15), (.load true 2 (.t 4)), none, false⟩,
   ⟨(some 16), (.bslice 2 1 (.agg [.nil, .nil]) [(0, (.t 15))]), none, false⟩,
   ⟨(some 17), (.call (.f 8) [(.t 16)]), none, false⟩,
   ⟨(some 18), (.mv (.t 17)), none, false⟩,
   ⟨(some 19), (.load true 3 (.t 5)), (some (18, false)), false⟩,
   ⟨(some 20), (.call (.f 9) [(.t 19)]), (some (18, false)), false⟩,
   ⟨(some 21), (.pick (.t 18) (.c (.bool true)) (.t 20)), none, false⟩,
   ⟨(some 22), (.mv (.t 21)), none, false⟩,
   ⟨(some 23), (.load true 3 (.t 6)), (some (22, false)), false⟩,
   ⟨(some 24), (.call (.f 9) [(.t 23)]), (some (22, false)), false⟩,
   ⟨(some 25), (.pick (.t 22) (.c (.bool true)) (.t 24)), none, false⟩,
   ⟨(some 26), (.mv (.t 25)), none, false⟩,
   ⟨(some 27), (.load true 3 (.t 7)), (some (26, false)), false⟩,
   ⟨(some 28), (.call (.f 9) [(.t 27)]), (some (26, false)), false⟩,
   ⟨(some 29), (.pick (.t 26) (.c (.bool true)) (.t 28)), none, false⟩]
@[simp] def c_fplaw37_PipeOver_r4 : List AOper :=
  [⟨(some 8), (.mv (.c (.bool true))), none, false⟩]
@[simp] def c_fplaw37_PipeOver_r5 : List AOper :=
  [⟨(some 31), (.load true 2 (.t 4)), none, false⟩,
   ⟨(some 32), (.load true 3 (.t 5)), none, false⟩,
   ⟨(some 33), (.load true 3 (.t 6)), none, false⟩,
   ⟨(some 34), (.call (.f 35) [(.t 31), (.t 32), (.t 33)]), none, false⟩,
   ⟨(some 30), (.mv (.t 34)), none, false⟩,
   ⟨(some 35), (.extract 0 (.t 30)), none, false⟩,
   ⟨(some 36), (.extract 1 (.t 30)), none, false⟩,
   ⟨(some 9), (.mv (.t 35)), none, false⟩,
   ⟨(some 10), (.mv (.t 36)), none, false⟩]
@[simp] def c_fplaw37_PipeOver_r6 : List AOper :=
  [⟨(some 38), (.load true 2 (.t 4)), none, false⟩,
   ⟨(some 39), (.load true 3 (.t 7)), none, false⟩,
   ⟨(some 40), (.call (.f 19) [(.t 38), (.t 39)]), none, false⟩,
   ⟨(some 37), (.mv (.t 40)), none, false⟩,
   ⟨(some 41), (.extract 0 (.t 37)), none, false⟩,
   ⟨(some 42), (.extract 1 (.t 37)), none, false⟩,
   ⟨(some 11), (.mv (.t 41)), none, false⟩,
   ⟨(some 12), (.mv (.t 42)), none, false⟩]
@[simp] def c_fplaw37_PipeOver_r7 : List AOper :=
  [⟨(some 43), (.mv (.t 10)), none, false⟩,
   ⟨(some 44), (.bin .num .neq (.t 43) (.c (.int .i64 0))), none, false⟩,
   ⟨(some 45), (.mv (.t 44)), none, false⟩,
   ⟨(some 46), (.mv (.t 12)), (some (45, false)), false⟩,
   ⟨(some 47), (.bin .num .neq (.t 46) (.c (.int .i64 0))), (some (45, false)), false⟩,
   ⟨(some 48), (.pick (.t 45) (.c (.bool true)) (.t 47)), none, false⟩,
   ⟨(some 49), (.mv (.t 48)), none, false⟩,
   ⟨(some 50), (.load true 3 (.t 5)), (some (49, false)), false⟩,
   ⟨(some 51), (.load true 3 (.t 7)), (some (49, false)), false⟩,
   ⟨(some 52), (.call (.f 18) [(.t 50), (.t 51)]), (some (49, false)), false⟩,
   ⟨(some 53), (.bin .num .gtr (.t 52) (.c (.int .i64 0))), (some (49, false)), false⟩,
   ⟨(some 54), (.pick (.t 49) (.c (.bool true)) (.t 53)), none, false⟩,
   ⟨(some 55), (.mv (.t 54)), none, false⟩,
   ⟨(some 56), (.load true 3 (.t 7)), (some (55, false)), false⟩,
   ⟨(some 57), (.load true 3 (.t 6)), (some (55, false)), false⟩,
   ⟨(some 58), (.call (.f 18) [(.t 56), (.t 57)]), (some (55, false)), false⟩,
   ⟨(some 59), (.bin .num .gtr (.t 58) (.c (.int .i64 0))), (some (55, false)), false⟩,
   ⟨(some 60), (.pick (.t 55) (.c (.bool true)) (.t 59)), none, false⟩]
@[simp] def c_fplaw37_PipeOver_r8 : List AOper :=
  [⟨(some 8), (.mv (.c (.bool true))), none, false⟩]
@[simp] def c_fplaw37_PipeOver_r9 : List AOper :=
  [⟨(some 61), (.mv (.t 11)), none, false⟩,
   ⟨(some 62), (.mv (.t 9)), none, false⟩,
   ⟨(some 63), (.call (.f 27) [(.t 61), (.t 62)]), none, false⟩,
   ⟨(some 8), (.mv (.t 63)), none, false⟩]
@[simp] def c_fplaw37_PipeOver : AFn := ⟨[(.tmp 8)],
  (.seq (.region false c_fplaw37_PipeOver_r0) (.seq (.seq (.region false c_fplaw37_PipeOver_r1) (.cond (.t 14) (.seq (.region false c_fplaw37_PipeOver_r2) .ret) .skip)) (.seq (.seq (.region false c_fplaw37_PipeOver_r3) (.cond (.t 29) (.seq (.region false c_fplaw37_PipeOver_r4) .ret) .skip)) (.seq (.region false c_fplaw37_PipeOver_r5) (.seq (.region false c_fplaw37_PipeOver_r6) (.seq (.seq (.region false c_fplaw37_PipeOver_r7) (.cond (.t 60) (.seq (.region false c_fplaw37_PipeOver_r8) .ret) .skip)) (.seq (.region false c_fplaw37_PipeOver_r9) .ret))))))),
  false, false⟩

/- fplaw37_awake -/
@[simp] def c_fplaw37_awake_r0 : List AOper :=
  [⟨(some 0), (.mv (.c (.bool false))), none, false⟩]
@[simp] def c_fplaw37_awake_r1 : List AOper :=
  [⟨(some 8), (.call (.f 38) []), none, false⟩,
   ⟨(some 1), (.new 2 (.agg [.nil, .nil])), none, false⟩,
   ⟨none, (.store 2 (.t 1) (.t 8)), none, false⟩]
@[simp] def c_fplaw37_awake_r2 : List AOper :=
  [⟨(some 10), (.load true 2 (.t 1)), none, false⟩,
   ⟨(some 11), (.call (.f 39) [(.c (.int .i64 1))]), none, false⟩,
   ⟨(some 12), (.call (.f 19) [(.t 10), (.t 11)]), none, true⟩,
   ⟨(some 9), (.mv (.t 12)), none, false⟩,
   ⟨(some 13), (.extract 0 (.t 9)), none, false⟩,
   ⟨(some 14), (.extract 1 (.t 9)), none, false⟩,
   ⟨(some 2), (.mv (.t 13)), none, false⟩,
   ⟨(some 3), (.mv (.t 14)), none, false⟩]
@[simp] def c_fplaw37_awake_r3 : List AOper :=
  [⟨(some 16), (.load true 2 (.t 1)), none, false⟩,
   ⟨(some 17), (.call (.f 39) [(.c (.int .i64 2))]), none, false⟩,
   ⟨(some 18), (.call (.f 19) [(.t 16), (.t 17)]), none, true⟩,
   ⟨(some 15), (.mv (.t 18)), none, false⟩,
   ⟨(some 19), (.extract 0 (.t 15)), none, false⟩,
   ⟨(some 20), (.extract 1 (.t 15)), none, false⟩,
   ⟨(some 4), (.mv (.t 19)), none, false⟩,
   ⟨(some 5), (.mv (.t 20)), none, false⟩]
@[simp] def c_fplaw37_awake_r4 : List AOper :=
  [⟨(some 22), (.load true 2 (.t 1)), none, false⟩,
   ⟨(some 23), (.call (.f 39) [(.c (.int .i64 2))]), none, false⟩,
   ⟨(some 24), (.call (.f 10) [(.t 22), (.t 23)]), none, false⟩,
   ⟨(some 21), (.mv (.t 24)), none, false⟩,
   ⟨(some 25), (.extract 0 (.t 21)), none, false⟩,
   ⟨(some 26), (.extract 1 (.t 21)), none, false⟩,
   ⟨(some 6), (.new 2 (.agg [.nil, .nil])), none, false⟩,
   ⟨none, (.store 2 (.t 6) (.t 25)), none, true⟩,
   ⟨(some 7), (.mv (.t 26)), none, false⟩]
@[simp] def c_fplaw37_awake_r5 : List AOper :=
  [⟨(some 27), (.mv (.t 3)), none, false⟩,
   ⟨(some 28), (.bin .num .eql (.t 27) (.c (.int .i64 0))), none, false⟩,
   ⟨(some 29), (.mv (.t 28)), none, false⟩,
   ⟨(some 30), (.mv (.t 5)), (some (29, true)), false⟩,
   ⟨(some 31), (.bin .num .eql (.t 30) (.c (.int .i64 0))), (some (29, true)), false⟩,
   ⟨(some 32), (.pick (.t 29) (.t 31) (.c (.bool false))), none, false⟩,
   ⟨(some 33), (.mv (.t 32)), none, false⟩,
   ⟨(some 34), (.mv (.t 7)), (some (33, true)), false⟩,
   ⟨(some 35), (.bin .num .eql (.t 34) (.c (.int .i64 0))), (some (33, true)), false⟩,
   ⟨(some 36), (.pick (.t 33) (.t 35) (.c (.bool false))), none, false⟩,
   ⟨(some 37), (.mv (.t 36)), none, false⟩,
   ⟨(some 38), (.mv (.t 2)), (some (37, true)), false⟩,
   ⟨(some 39), (.call (.f 40) [(.c (.int .i64 1)), (.c (.int .i64 1))]), (some (37, true)), true⟩,
   ⟨(some 40), (.call (.f 20) [(.t 38), (.t 39)]), (some (37, true)), true⟩,
   ⟨(some 41), (.pick (.t 37) (.t 40) (.c (.bool false))), none, false⟩,
   ⟨(some 42), (.mv (.t 41)), none, false⟩,
   ⟨(some 43), (.mv (.t 4)), (some (42, true)), false⟩,
   ⟨(some 44), (.call (.f 40) [(.c (.int .i64 1)), (.c (.int .i64 3))]), (some (42, true)), true⟩,
   ⟨(some 45), (.call (.f 20) [(.t 43), (.t 44)]), (some (42, true)), true⟩,
   ⟨(some 46), (.pick (.t 42) (.t 45) (.c (.bool false))), none, false⟩,
   ⟨(some 47), (.mv (.t 46)), none, false⟩,
   ⟨(some 48), (.faddr 1 (.t 6)), (some (47, true)), false⟩,
   ⟨(some 49), (.load false 1 (.t 48)), (some (47, true)), false⟩,
   ⟨(some 50), (.len (.t 49)), (some (47, true)), false⟩,
   ⟨(some 51), (.bin .num .eql (.t 50) (.c (.int .i64 2))), (some (47, true)), false⟩,
   ⟨(some 52), (.pick (.t 47) (.t 51) (.c (.bool false))), none, false⟩,
   ⟨(some 53), (.mv (.t 52)), none, false⟩,
   ⟨(some 54), (.faddr 1 (.t 6)), (some (53, true)), false⟩,
   ⟨(some 55), (.load false 1 (.t 54)), (some (53, true)), false⟩,
   ⟨(some 56), (.iaddr 8 (.t 55) (.c (.int .i64 1))), (some (53, true)), false⟩,
   ⟨(some 57), (.faddr 7 (.t 56)), (some (53, true)), false⟩,
   ⟨(some 58), (.load false 1 (.t 57)), (some (53, true)), false⟩,
   ⟨(some 59), (.call (.f 40) [(.c (.int .i64 1)), (.c (.int .i64 3))]), (some (53, true)), false⟩,
   ⟨(some 60), (.call (.f 20) [(.t 58), (.t 59)]), (some (53, true)), true⟩,
   ⟨(some 61), (.pick (.t 53) (.t 60) (.c (.bool false))), none, false⟩,
   ⟨(some 62), (.mv (.t 61)), none, false⟩,
   ⟨(some 63), (.load true 2 (.t 1)), (some (62, true)), false⟩,
   ⟨(some 64), (.call (.f 17) [(.t 63)]), (some (62, true)), true⟩,
   ⟨(some 65), (.pick (.t 62) (.t 64) (.c (.bool false))), none, false⟩,
   ⟨(some 0), (.mv (.t 65)), none, false⟩]
@[simp] def c_fplaw37_awake : AFn := ⟨[(.tmp 0)],
  (.seq (.region false c_fplaw37_awake_r0) (.seq (.region false c_fplaw37_awake_r1) (.seq (.region true c_fplaw37_awake_r2) (.seq (.region true c_fplaw37_awake_r3) (.seq (.region true c_fplaw37_awake_r4) (.seq (.region true c_fplaw37_awake_r5) .ret)))))),
  false, false⟩

/- fplaw37_great -/
@[simp] def c_fplaw37_great_r0 : List AOper :=
  [⟨(some 2), (.mv (.c (.bool false))), none, false⟩]
@[simp] def c_fplaw37_great_r1 : List AOper :=
  [⟨(some 3), (.mv (.t 0)), none, false⟩,
   ⟨(some 4), (.call (.f 41) [(.t 3), (.f 42)]), none, false⟩,
   ⟨(some 2), (.mv (.t 4)), none, false⟩]
@[simp] def c_fplaw37_great : AFn := ⟨[(.tmp 2)],
  (.seq (.region false c_fplaw37_great_r0) (.seq (.region false c_fplaw37_great_r1) .ret)),
  false, false⟩

/- fplaw37_long -/
@[simp] def c_fplaw37_long_r0 : List AOper :=
  [⟨(some 1), (.box 3 (.t 0)), none, false⟩,
   ⟨(some 2), (.mv (.c (.bool false))), none, false⟩]
@[simp] def c_fplaw37_long_r1 : List AOper :=
  [⟨(some 3), (.faddr 1 (.t 1)), none, false⟩,
   ⟨(some 4), (.load false 1 (.t 3)), none, false⟩,
   ⟨(some 5), (.len (.t 4)), none, false⟩,
   ⟨(some 6), (.bin .num .gtr (.t 5) (.c (.int .i64 20))), none, false⟩,
   ⟨(some 2), (.mv (.t 6)), none, false⟩]
@[simp] def c_fplaw37_long : AFn := ⟨[(.tmp 2)],
  (.seq (.region false c_fplaw37_long_r0) (.seq (.region false c_fplaw37_long_r1) .ret)),
  false, false⟩

/- pipe_Cut -/
@[simp] def c_pipe_Cut_r0 : List AOper :=
  [⟨(some 2), (.box 2 (.t 0)), none, false⟩,
   ⟨(some 3), (.box 3 (.t 1)), none, false⟩,
   ⟨(some 4), (.new 2 (.agg [.nil, .nil])), none, false⟩,
   ⟨(some 5), (.mv (.c (.int .i64 0))), none, false⟩]
@[simp] def c_pipe_Cut_r1 : List AOper :=
  [⟨(some 12), (.load true 2 (.t 2)), none, false⟩,
   ⟨(some 13), (.load true 3 (.t 3)), none, false⟩,
   ⟨(some 14), (.call (.f 19) [(.t 12), (.t 13)]), none, false⟩,
   ⟨(some 11), (.mv (.t 14)), none, false⟩,
   ⟨(some 15), (.extract 0 (.t 11)), none, false⟩,
   ⟨(some 16), (.extract 1 (.t 11)), none, false⟩,
   ⟨(some 6), (.mv (.t 15)), none, false⟩,
   ⟨(some 7), (.mv (.t 16)), none, false⟩]
@[simp] def c_pipe_Cut_r2 : List AOper :=
  [⟨(some 17), (.mv (.t 7)), none, false⟩,
   ⟨(some 18), (.bin .num .neq (.t 17) (.c (.int .i64 0))), none, false⟩]
@[simp] def c_pipe_Cut_r3 : List AOper :=
  [⟨(some 19), (.build [.nil, .nil] []), none, false⟩,
   ⟨(some 20), (.mv (.t 7)), none, false⟩,
   ⟨none, (.store 2 (.t 4) (.t 19)), none, false⟩,
   ⟨(some 5), (.mv (.t 20)), none, false⟩]
@[simp] def c_pipe_Cut_r4 : List AOper :=
  [⟨(some 21), (.load true 2 (.t 2)), none, false⟩,
   ⟨(some 22), (.call (.f 45) [(.t 21)]), none, false⟩,
   ⟨(some 8), (.new 2 (.agg [.nil, .nil])), none, false⟩,
   ⟨none, (.store 2 (.t 8) (.t 22)), none, false⟩]
@[simp] def c_pipe_Cut_r5 : List AOper :=
  [⟨(some 23), (.faddr 1 (.t 8)), none, false⟩,
   ⟨(some 24), (.load false 1 (.t 23)), none, false⟩,
   ⟨(some 25), (.len (.t 24)), none, false⟩,
   ⟨(some 26), (.mv (.c (.int .i64 0))), none, false⟩]
@[simp] def c_pipe_Cut_r6 : List AOper :=
  [⟨(some 27), (.bin .num .lss (.t 26) (.t 25)), none, false⟩]
@[simp] def c_pipe_Cut_r7 : List AOper :=
  [⟨(some 28), (.mv (.t 26)), none, false⟩,
   ⟨(some 29), (.iaddr 8 (.t 24) (.t 26)), none, false⟩,
   ⟨(some 30), (.load true 8 (.t 29)), none, false⟩,
   ⟨(some 10), (.new 8 (.agg [(.bool false), .nil, (.int .i64 0), (.bool false), .nil, (.int .i64 0), .nil, .nil])), none, false⟩,
   ⟨(some 9), (.mv (.t 28)), none, false⟩,
   ⟨none, (.store 8 (.t 10) (.t 30)), none, false⟩]
@[simp] def c_pipe_Cut_r8 : List AOper :=
  [⟨(some 31), (.load true 3 (.t 3)), none, false⟩,
   ⟨(some 32), (.faddr 3 (.t 10)), none, false⟩,
   ⟨(some 33), (.load true 3 (.t 32)), none, false⟩,
   ⟨(some 34), (.call (.f 46) [(.t 31), (.t 33)]), none, false⟩,
   ⟨(some 35), (.un .not (.t 34)), none, false⟩]
@[simp] def c_pipe_Cut_r9 : List AOper :=
  [⟨(some 36), (.faddr 0 (.t 10)), none, false⟩,
   ⟨(some 37), (.load true 3 (.t 36)), none, false⟩,
   ⟨(some 38), (.load true 3 (.t 3)), none, false⟩,
   ⟨(some 39), (.call (.f 46) [(.t 37), (.t 38)]), none, false⟩]
@[simp] def c_pipe_Cut_r10 : List AOper :=
  [⟨(some 40), (.faddr 1 (.t 8)), none, false⟩,
   ⟨(some 41), (.load false 1 (.t 40)), none, false⟩,
   ⟨(some 42), (.mv (.t 9)), none, false⟩,
   ⟨(some 43), (.faddr 1 (.t 8)), none, false⟩,
   ⟨(some 44), (.sload false 1 43), none, false⟩,
   ⟨(some 45), (.mv (.t 9)), none, false⟩,
   ⟨(some 46), (.load true 3 (.t 3)), none, false⟩,
   ⟨(some 47), (.faddr 6 (.t 10)), none, false⟩,
   ⟨(some 48), (.load false 1 (.t 47)), none, false⟩,
   ⟨(some 49), (.call (.f 47) [(.t 48)]), none, false⟩,
   ⟨(some 50), (.iaddr 8 (.t 41) (.t 42)), none, false⟩,
   ⟨(some 51), (.faddr 3 (.t 50)), none, false⟩,
   ⟨none, (.storeN 3 (.t 51) (.t 46) [43]), none, true⟩,
   ⟨(some 52), (.iaddr 8 (.t 44) (.t 45)), none, false⟩,
   ⟨(some 53), (.faddr 7 (.t 52)), none, false⟩,
   ⟨none, (.store 1 (.t 53) (.t 49)), none, true⟩]
@[simp] def c_pipe_Cut_r11 : List AOper :=
  [⟨(some 54), (.mv (.t 9)), none, false⟩,
   ⟨(some 55), (.bin .num .add (.t 54) (.c (.int .i64 1))), none, false⟩,
   ⟨(some 9), (.mv (.t 55)), none, false⟩]
@[simp] def c_pipe_Cut_r12 : List AOper :=
  [⟨(some 56), (.faddr 1 (.t 8)), none, false⟩,
   ⟨(some 57), (.load false 1 (.t 56)), none, false⟩,
   ⟨(some 58), (.mv (.t 9)), none, false⟩,
   ⟨(some 59), (.slice 8 (.t 57) none (some (.t 58)) none), none, false⟩,
   ⟨(some 60), (.faddr 1 (.t 8)), none, false⟩,
   ⟨none, (.store 1 (.t 60) (.t 59)), none, false⟩]
@[simp] def c_pipe_Cut_r13 : List AOper :=
  [⟨(some 61), (.bin .num .add (.t 26) (.c (.int .i64 1))), none, false⟩,
   ⟨(some 26), (.mv (.t 61)), none, false⟩]
def c_pipe_Cut_l0 : AC := (.seq (.region false c_pipe_Cut_r6) (.seq (.cond (.t 27) .skip (.exit 0)) (.seq (.block 1 (.seq (.region false c_pipe_Cut_r7) (.seq (.seq (.region false c_pipe_Cut_r8) (.cond (.t 35) (.exit 1) .skip)) (.seq (.seq (.region false c_pipe_Cut_r9) (.cond (.t 39) (.seq (.region true c_pipe_Cut_r10) (.region false c_pipe_Cut_r11)) .skip)) (.seq (.region false c_pipe_Cut_r12) (.exit 0)))))) (.region false c_pipe_Cut_r13))))
@[simp] def c_pipe_Cut_r14 : List AOper :=
  [⟨(some 62), (.load true 2 (.t 8)), none, false⟩,
   ⟨none, (.store 2 (.t 4) (.t 62)), none, false⟩,
   ⟨(some 5), (.mv (.c (.int .i64 0))), none, false⟩]
@[simp] def c_pipe_Cut : AFn := ⟨[(.cell 4 true 2), (.tmp 5)],
  (.seq (.region false c_pipe_Cut_r0) (.seq (.seq (.region false c_pipe_Cut_r1) (.seq (.region false c_pipe_Cut_r2) (.cond (.t 18) (.seq (.region false c_pipe_Cut_r3) .ret) .skip))) (.seq (.region false c_pipe_Cut_r4) (.seq (.seq (.region false c_pipe_Cut_r5) (.block 0 (.loop c_pipe_Cut_l0))) (.seq (.region false c_pipe_Cut_r14) .ret))))),
  false, false⟩

/- fpref37_Valid -/
@[simp] def c_fpref37_Valid_r0 : List AOper :=
  [⟨(some 1), (.box 2 (.t 0)), none, false⟩,
   ⟨(some 2), (.mv (.c (.bool false))), none, false⟩]
@[simp] def c_fpref37_Valid_r1 : List AOper :=
  [⟨(some 5), (.faddr 0 (.t 1)), none, false⟩,
   ⟨(some 6), (.load false 1 (.t 5)), none, false⟩,
   ⟨(some 7), (.call (.f 31) [(.t 6)]), none, false⟩,
   ⟨(some 8), (.un .not (.t 7)), none, false⟩,
   ⟨(some 9), (.mv (.t 8)), none, false⟩,
   ⟨(some 10), (.faddr 0 (.t 1)), (some (9, false)), false⟩,
   ⟨(some 11), (.load false 1 (.t 10)), (some (9, false)), false⟩,
   ⟨(some 12), (.len (.t 11)), (some (9, false)), false⟩,
   ⟨(some 13), (.bin .num .gtr (.t 12) (.c (.int .i64 4))), (some (9, false)), false⟩,
   ⟨(some 14), (.pick (.t 9) (.c (.bool true)) (.t 13)), none, false⟩,
   ⟨(some 15), (.mv (.t 14)), none, false⟩,
   ⟨(some 16), (.faddr 1 (.t 1)), (some (15, false)), false⟩,
   ⟨(some 17), (.load false 1 (.t 16)), (some (15, false)), false⟩,
   ⟨(some 18), (.len (.t 17)), (some (15, false)), false⟩,
   ⟨(some 19), (.bin .num .gtr (.t 18) (.c (.int .i64 1000))), (some (15, false)), false⟩,
   ⟨(some 20), (.pick (.t 15) (.c (.bool true)) (.t 19)), none, false⟩]
@[simp] def c_fpref37_Valid_r2 : List AOper :=
  [⟨(some 2), (.mv (.c (.bool false))), none, false⟩]
@[simp] def c_fpref37_Valid_r3 : List AOper :=
  [⟨(some 3), (.mv (.c (.int .i64 0))), none, false⟩]
@[simp] def c_fpref37_Valid_r4 : List AOper :=
  [⟨(some 21), (.mv (.t 3)), none, false⟩,
   ⟨(some 22), (.faddr 1 (.t 1)), none, false⟩,
   ⟨(some 23), (.load false 1 (.t 22)), none, false⟩,
   ⟨(some 24), (.len (.t 23)), none, false⟩,
   ⟨(some 25), (.bin .num .lss (.t 21) (.t 24)), none, false⟩]
@[simp] def c_fpref37_Valid_r5 : List AOper :=
  [⟨(some 28), (.faddr 1 (.t 1)), none, false⟩,
   ⟨(some 29), (.load false 1 (.t 28)), none, false⟩,
   ⟨(some 30), (.mv (.t 3)), none, false⟩,
   ⟨(some 31), (.iaddr 8 (.t 29) (.t 30)), none, false⟩,
   ⟨(some 32), (.load true 8 (.t 31)), none, false⟩,
   ⟨(some 4), (.new 8 (.agg [(.bool false), .nil, (.int .i64 0), (.bool false), .nil, (.int .i64 0), .nil, .nil])), none, false⟩,
   ⟨none, (.store 8 (.t 4) (.t 32)), none, false⟩]
@[simp] def c_fpref37_Valid_r6 : List AOper :=
  [⟨(some 33), (.faddr 0 (.t 4)), none, false⟩,
   ⟨(some 34), (.load true 3 (.t 33)), none, false⟩,
   ⟨(some 35), (.call (.f 12) [(.t 34)]), none, true⟩,
   ⟨(some 36), (.un .not (.t 35)), none, false⟩,
   ⟨(some 37), (.mv (.t 36)), none, false⟩,
   ⟨(some 38), (.faddr 3 (.t 4)), (some (37, false)), false⟩,
   ⟨(some 39), (.load true 3 (.t 38)), (some (37, false)), false⟩,
   ⟨(some 40), (.call (.f 12) [(.t 39)]), (some (37, false)), true⟩,
   ⟨(some 41), (.un .not (.t 40)), (some (37, false)), false⟩,
   ⟨(some 42), (.pick (.t 37) (.c (.bool true)) (.t 41)), none, false⟩,
   ⟨(some 43), (.mv (.t 42)), none, false⟩,
   ⟨(some 44), (.faddr 0 (.t 4)), (some (43, false)), false⟩,
   ⟨(some 45), (.load true 3 (.t 44)), (some (43, false)), false⟩,
   ⟨(some 46), (.faddr 3 (.t 4)), (some (43, false)), false⟩,
   ⟨(some 47), (.load true 3 (.t 46)), (some (43, false)), false⟩,
   ⟨(some 48), (.call (.f 18) [(.t 45), (.t 47)]), (some (43, false)), true⟩,
   ⟨(some 49), (.bin .num .geq (.t 48) (.c (.int .i64 0))), (some (43, false)), false⟩,
   ⟨(some 50), (.pick (.t 43) (.c (.bool true)) (.t 49)), none, false⟩,
   ⟨(some 51), (.mv (.t 50)), none, false⟩,
   ⟨(some 52), (.mv (.t 3)), (some (51, false)), false⟩,
   ⟨(some 53), (.bin .num .gtr (.t 52) (.c (.int .i64 0))), (some (51, false)), false⟩,
   ⟨(some 54), (.mv (.t 53)), (some (51, false)), false⟩,
   ⟨(some 55), (.faddr 0 (.t 4)), (some (54, true)), false⟩,
   ⟨(some 56), (.load true 3 (.t 55)), (some (54, true)), false⟩,
   ⟨(some 57), (.faddr 1 (.t 1)), (some (54, true)), false⟩,
   ⟨(some 58), (.load false 1 (.t 57)), (some (54, true)), false⟩,
   ⟨(some 59), (.mv (.t 3)), (some (54, true)), false⟩,
   ⟨(some 60), (.bin .num .sub (.t 59) (.c (.int .i64 1))), (some (54, true)), false⟩,
   ⟨(some 61), (.iaddr 8 (.t 58) (.t 60)), (some (54, true)), false⟩,
   ⟨(some 62), (.faddr 3 (.t 61)), (some (54, true)), false⟩,
   ⟨(some 63), (.load true 3 (.t 62)), (some (54, true)), false⟩,
   ⟨(some 64), (.call (.f 23) [(.t 56), (.t 63)]), (some (54, true)), true⟩,
   ⟨(some 65), (.un .not (.t 64)), (some (54, true)), false⟩,
   ⟨(some 66), (.pick (.t 54) (.t 65) (.c (.bool false))), (some (51, false)), false⟩,
   ⟨(some 67), (.pick (.t 51) (.c (.bool true)) (.t 66)), none, false⟩]
@[simp] def c_fpref37_Valid_r7 : List AOper :=
  [⟨(some 2), (.mv (.c (.bool false))), none, false⟩]
@[simp] def c_fpref37_Valid_r8 : List AOper :=
  [⟨(some 68), (.faddr 6 (.t 4)), none, false⟩,
   ⟨(some 69), (.load false 1 (.t 68)), none, false⟩,
   ⟨(some 70), (.call (.f 31) [(.t 69)]), none, true⟩,
   ⟨(some 71), (.un .not (.t 70)), none, false⟩,
   ⟨(some 72), (.mv (.t 71)), none, false⟩,
   ⟨(some 73), (.faddr 7 (.t 4)), (some (72, false)), false⟩,
   ⟨(some 74), (.load false 1 (.t 73)), (some (72, false)), false⟩,
   ⟨(some 75), (.call (.f 31) [(.t 74)]), (some (72, false)), true⟩,
   ⟨(some 76), (.un .not (.t 75)), (some (72, false)), false⟩,
   ⟨(some 77), (.pick (.t 72) (.c (.bool true)) (.t 76)), none, false⟩,
   ⟨(some 78), (.mv (.t 77)), none, false⟩,
   ⟨(some 79), (.faddr 6 (.t 4)), (some (78, false)), false⟩,
   ⟨(some 80), (.load false 1 (.t 79)), (some (78, false)), false⟩,
   ⟨(some 81), (.len (.t 80)), (some (78, false)), false⟩,
   ⟨(some 82), (.faddr 0 (.t 1)), (some (78, false)), false⟩,
   ⟨(some 83), (.load false 1 (.t 82)), (some (78, false)), false⟩,
   ⟨(some 84), (.len (.t 83)), (some (78, false)), false⟩,
   ⟨(some 85), (.bin .num .neq (.t 81) (.t 84)), (some (78, false)), false⟩,
   ⟨(some 86), (.pick (.t 78) (.c (.bool true)) (.t 85)), none, false⟩,
   ⟨(some 87), (.mv (.t 86)), none, false⟩,
   ⟨(some 88), (.faddr 7 (.t 4)), (some (87, false)), false⟩,
   ⟨(some 89), (.load false 1 (.t 88)), (some (87, false)), false⟩,
   ⟨(some 90), (.faddr 6 (.t 4)), (some (87, false)), false⟩,
   ⟨(some 91), (.load false 1 (.t 90)), (some (87, false)), false⟩,
   ⟨(some 92), (.call (.f 27) [(.t 89), (.t 91)]), (some (87, false)), true⟩,
   ⟨(some 93), (.un .not (.t 92)), (some (87, false)), false⟩,
   ⟨(some 94), (.pick (.t 87) (.c (.bool true)) (.t 93)), none, false⟩,
   ⟨(some 95), (.mv (.t 94)), none, false⟩,
   ⟨(some 96), (.load true 2 (.t 1)), (some (95, false)), false⟩,
   ⟨(some 97), (.mv (.t 3)), (some (95, false)), false⟩,
   ⟨(some 98), (.call (.f 48) [(.t 96), (.t 97)]), (some (95, false)), false⟩,
   ⟨(some 99), (.faddr 6 (.t 4)), (some (95, false)), false⟩,
   ⟨(some 100), (.load false 1 (.t 99)), (some (95, false)), false⟩,
   ⟨(some 101), (.call (.f 27) [(.t 98), (.t 100)]), (some (95, false)), true⟩,
   ⟨(some 102), (.un .not (.t 101)), (some (95, false)), false⟩,
   ⟨(some 103), (.pick (.t 95) (.c (.bool true)) (.t 102)), none, false⟩]
@[simp] def c_fpref37_Valid_r9 : List AOper :=
  [⟨(some 2), (.mv (.c (.bool false))), none, false⟩]
@[simp] def c_fpref37_Valid_r10 : List AOper :=
  [⟨(some 26), (.mv (.t 3)), none, false⟩,
   ⟨(some 27), (.bin .num .add (.t 26) (.c (.int .i64 1))), none, false⟩,
   ⟨(some 3), (.mv (.t 27)), none, false⟩]
def c_fpref37_Valid_l0 : AC := (.seq (.seq (.region false c_fpref37_Valid_r4) (.cond (.t 25) .skip (.exit 0))) (.seq (.block 1 (.seq (.region false c_fpref37_Valid_r5) (.seq (.seq (.region true c_fpref37_Valid_r6) (.cond (.t 67) (.seq (.region false c_fpref37_Valid_r7) .ret) .skip)) (.seq (.region true c_fpref37_Valid_r8) (.cond (.t 103) (.seq (.region false c_fpref37_Valid_r9) .ret) .skip))))) (.region false c_fpref37_Valid_r10)))
@[simp] def c_fpref37_Valid_r11 : List AOper :=
  [⟨(some 2), (.mv (.c (.bool true))), none, false⟩]
@[simp] def c_fpref37_Valid : AFn := ⟨[(.tmp 2)],
  (.seq (.region false c_fpref37_Valid_r0) (.seq (.seq (.region false c_fpref37_Valid_r1) (.cond (.t 20) (.seq (.region false c_fpref37_Valid_r2) .ret) .skip)) (.seq (.seq (.region false c_fpref37_Valid_r3) (.block 0 (.loop c_fpref37_Valid_l0))) (.seq (.region false c_fpref37_Valid_r11) .ret)))),
  false, false⟩

/- fpref02_Valid -/
@[simp] def c_fpref02_Valid_r0 : List AOper :=
  [⟨(some 1), (.box 3 (.t 0)), none, false⟩,
   ⟨(some 2), (.mv (.c (.bool false))), none, false⟩]
@[simp] def c_fpref02_Valid_r1 : List AOper :=
  [⟨(some 4), (.faddr 1 (.t 1)), none, false⟩,
   ⟨(some 5), (.load false 1 (.t 4)), none, false⟩,
   ⟨(some 6), (.len (.t 5)), none, false⟩,
   ⟨(some 7), (.bin .num .eql (.t 6) (.c (.int .i64 0))), none, false⟩]
@[simp] def c_fpref02_Valid_r2 : List AOper :=
  [⟨(some 8), (.faddr 0 (.t 1)), none, false⟩,
   ⟨(some 9), (.load false 1 (.t 8)), none, false⟩,
   ⟨(some 10), (.un .not (.t 9)), none, false⟩,
   ⟨(some 11), (.mv (.t 10)), none, false⟩,
   ⟨(some 12), (.faddr 2 (.t 1)), (some (11, true)), false⟩,
   ⟨(some 13), (.load false 1 (.t 12)), (some (11, true)), false⟩,
   ⟨(some 14), (.bin .num .eql (.t 13) (.c (.int .i64 0))), (some (11, true)), false⟩,
   ⟨(some 15), (.pick (.t 11) (.t 14) (.c (.bool false))), none, false⟩,
   ⟨(some 2), (.mv (.t 15)), none, false⟩]
@[simp] def c_fpref02_Valid_r3 : List AOper :=
  [⟨(some 16), (.faddr 1 (.t 1)), none, false⟩,
   ⟨(some 17), (.load false 1 (.t 16)), none, false⟩,
   ⟨(some 18), (.len (.t 17)), none, false⟩,
   ⟨(some 19), (.bin .num .gtr (.t 18) (.c (.int .i64 256))), none, false⟩,
   ⟨(some 20), (.mv (.t 19)), none, false⟩,
   ⟨(some 21), (.faddr 1 (.t 1)), (some (20, false)), false⟩,
   ⟨(some 22), (.load false 1 (.t 21)), (some (20, false)), false⟩,
   ⟨(some 23), (.faddr 1 (.t 1)), (some (20, false)), false⟩,
   ⟨(some 24), (.load false 1 (.t 23)), (some (20, false)), false⟩,
   ⟨(some 25), (.len (.t 24)), (some (20, false)), false⟩,
   ⟨(some 26), (.bin .num .sub (.t 25) (.c (.int .i64 1))), (some (20, false)), false⟩,
   ⟨(some 27), (.iaddr 1 (.t 22) (.t 26)), (some (20, false)), false⟩,
   ⟨(some 28), (.load false 1 (.t 27)), (some (20, false)), false⟩,
   ⟨(some 29), (.bin .num .eql (.t 28) (.c (.int .u32 0))), (some (20, false)), false⟩,
   ⟨(some 30), (.pick (.t 20) (.c (.bool true)) (.t 29)), none, false⟩,
   ⟨(some 31), (.mv (.t 30)), none, false⟩,
   ⟨(some 32), (.faddr 1 (.t 1)), (some (31, false)), false⟩,
   ⟨(some 33), (.load false 1 (.t 32)), (some (31, false)), false⟩,
   ⟨(some 34), (.iaddr 1 (.t 33) (.c (.int .i64 0))), (some (31, false)), false⟩,
   ⟨(some 35), (.load false 1 (.t 34)), (some (31, false)), false⟩,
   ⟨(some 36), (.bin .num .and (.t 35) (.c (.int .u32 1))), (some (31, false)), false⟩,
   ⟨(some 37), (.bin .num .eql (.t 36) (.c (.int .u32 0))), (some (31, false)), false⟩,
   ⟨(some 38), (.pick (.t 31) (.c (.bool true)) (.t 37)), none, false⟩,
   ⟨(some 39), (.mv (.t 38)), none, false⟩,
   ⟨(some 40), (.faddr 2 (.t 1)), (some (39, false)), false⟩,
   ⟨(some 41), (.load false 1 (.t 40)), (some (39, false)), false⟩,
   ⟨(some 42), (.bin .num .lss (.t 41) (.c (.int .i64 (-16384)))), (some (39, false)), false⟩,
   ⟨(some 43), (.pick (.t 39) (.c (.bool true)) (.t 42)), none, false⟩,
   ⟨(some 44), (.mv (.t 43)), none, false⟩,
   ⟨(some 45), (.faddr 2 (.t 1)), (some (44, false)), false⟩,
   ⟨(some 46), (.load false 1 (.t 45)), (some (44, false)), false⟩,
   ⟨(some 47), (.bin .num .gtr (.t 46) (.c (.int .i64 16384))), (some (44, false)), false⟩,
   ⟨(some 48), (.pick (.t 44) (.c (.bool true)) (.t 47)), none, false⟩]
@[simp] def c_fpref02_Valid_r4 : List AOper :=
  [⟨(some 2), (.mv (.c (.bool false))), none, false⟩]
@[simp] def c_fpref02_Valid_r5 : List AOper :=
  [⟨(some 49), (.faddr 1 (.t 1)), none, false⟩,
   ⟨(some 50), (.load false 1 (.t 49)), none, false⟩,
   ⟨(some 51), (.call (.f 49) [(.t 50)]), none, false⟩,
   ⟨(some 3), (.mv (.t 51)), none, false⟩]
@[simp] def c_fpref02_Valid_r6 : List AOper :=
  [⟨(some 52), (.mv (.t 3)), none, false⟩,
   ⟨(some 53), (.bin .num .leq (.t 52) (.c (.int .i64 4096))), none, false⟩,
   ⟨(some 54), (.mv (.t 53)), none, false⟩,
   ⟨(some 55), (.mv (.t 3)), (some (54, true)), false⟩,
   ⟨(some 56), (.faddr 2 (.t 1)), (some (54, true)), false⟩,
   ⟨(some 57), (.load false 1 (.t 56)), (some (54, true)), false⟩,
   ⟨(some 58), (.bin .num .add (.t 55) (.t 57)), (some (54, true)), false⟩,
   ⟨(some 59), (.bin .num .leq (.t 58) (.c (.int .i64 16384))), (some (54, true)), false⟩,
   ⟨(some 60), (.pick (.t 54) (.t 59) (.c (.bool false))), none, false⟩,
   ⟨(some 2), (.mv (.t 60)), none, false⟩]
@[simp] def c_fpref02_Valid : AFn := ⟨[(.tmp 2)],
  (.seq (.region false c_fpref02_Valid_r0) (.seq (.seq (.region false c_fpref02_Valid_r1) (.cond (.t 7) (.seq (.region false c_fpref02_Valid_r2) .ret) .skip)) (.seq (.seq (.region false c_fpref02_Valid_r3) (.cond (.t 48) (.seq (.region false c_fpref02_Valid_r4) .ret) .skip)) (.seq (.region false c_fpref02_Valid_r5) (.seq (.region false c_fpref02_Valid_r6) .ret))))),
  false, false⟩

/- fplaw37_zero -/
@[simp] def c_fplaw37_zero_r0 : List AOper :=
  [⟨(some 1), (.box 2 (.t 0)), none, false⟩,
   ⟨(some 2), (.mv (.c (.bool false))), none, false⟩]
@[simp] def c_fplaw37_zero_r1 : List AOper :=
  [⟨(some 3), (.faddr 0 (.t 1)), none, false⟩,
   ⟨(some 4), (.load false 1 (.t 3)), none, false⟩,
   ⟨(some 5), (.len (.t 4)), none, false⟩,
   ⟨(some 6), (.bin .num .eql (.t 5) (.c (.int .i64 0))), none, false⟩,
   ⟨(some 7), (.mv (.t 6)), none, false⟩,
   ⟨(some 8), (.faddr 1 (.t 1)), (some (7, true)), false⟩,
   ⟨(some 9), (.load false 1 (.t 8)), (some (7, true)), false⟩,
   ⟨(some 10), (.len (.t 9)), (some (7, true)), false⟩,
   ⟨(some 11), (.bin .num .eql (.t 10) (.c (.int .i64 0))), (some (7, true)), false⟩,
   ⟨(some 12), (.pick (.t 7) (.t 11) (.c (.bool false))), none, false⟩,
   ⟨(some 2), (.mv (.t 12)), none, false⟩]
@[simp] def c_fplaw37_zero : AFn := ⟨[(.tmp 2)],
  (.seq (.region false c_fplaw37_zero_r0) (.seq (.region false c_fplaw37_zero_r1) .ret)),
  false, false⟩

/- fpref37_Time -/
@[simp] def c_fpref37_Time_r0 : List AOper :=
  [⟨(some 2), (.box 2 (.t 0)), none, false⟩,
   ⟨(some 3), (.box 3 (.t 1)), none, false⟩,
   ⟨(some 4), (.mv (.c (.bool false))), none, false⟩]
@[simp] def c_fpref37_Time_r1 : List AOper :=
  [⟨(some 5), (.faddr 1 (.t 2)), none, false⟩,
   ⟨(some 6), (.load false 1 (.t 5)), none, false⟩,
   ⟨(some 7), (.len (.t 6)), none, false⟩,
   ⟨(some 8), (.bin .num .gtr (.t 7) (.c (.int .i64 0))), none, false⟩,
   ⟨(some 9), (.mv (.t 8)), none, false⟩,
   ⟨(some 10), (.load true 2 (.t 2)), (some (9, true)), false⟩,
   ⟨(some 11), (.call (.f 26) [(.t 10)]), (some (9, true)), false⟩,
   ⟨(some 12), (.load true 3 (.t 3)), (some (9, true)), false⟩,
   ⟨(some 13), (.call (.f 18) [(.t 11), (.t 12)]), (some (9, true)), true⟩,
   ⟨(some 14), (.bin .num .leq (.t 13) (.c (.int .i64 0))), (some (9, true)), false⟩,
   ⟨(some 15), (.pick (.t 9) (.t 14) (.c (.bool false))), none, false⟩,
   ⟨(some 16), (.mv (.t 15)), none, false⟩,
   ⟨(some 17), (.load true 3 (.t 3)), (some (16, true)), false⟩,
   ⟨(some 18), (.load true 2 (.t 2)), (some (16, true)), false⟩,
   ⟨(some 19), (.call (.f 24) [(.t 18)]), (some (16, true)), false⟩,
   ⟨(some 20), (.call (.f 18) [(.t 17), (.t 19)]), (some (16, true)), true⟩,
   ⟨(some 21), (.bin .num .leq (.t 20) (.c (.int .i64 0))), (some (16, true)), false⟩,
   ⟨(some 22), (.pick (.t 16) (.t 21) (.c (.bool false))), none, false⟩,
   ⟨(some 4), (.mv (.t 22)), none, false⟩]
@[simp] def c_fpref37_Time : AFn := ⟨[(.tmp 4)],
  (.seq (.region false c_fpref37_Time_r0) (.seq (.region true c_fpref37_Time_r1) .ret)),
  false, false⟩

/- fpref37_Same -/
@[simp] def c_fpref37_Same_r0 : List AOper :=
  [⟨(some 2), (.box 2 (.t 0)), none, false⟩,
   ⟨(some 3), (.box 2 (.t 1)), none, false⟩,
   ⟨(some 4), (.mv (.c (.bool false))), none, false⟩]
@[simp] def c_fpref37_Same_r1 : List AOper :=
  [⟨(some 8), (.faddr 0 (.t 2)), none, false⟩,
   ⟨(some 9), (.load false 1 (.t 8)), none, false⟩,
   ⟨(some 10), (.faddr 0 (.t 3)), none, false⟩,
   ⟨(some 11), (.load false 1 (.t 10)), none, false⟩,
   ⟨(some 12), (.call (.f 20) [(.t 9), (.t 11)]), none, false⟩,
   ⟨(some 13), (.un .not (.t 12)), none, false⟩,
   ⟨(some 14), (.mv (.t 13)), none, false⟩,
   ⟨(some 15), (.faddr 1 (.t 2)), (some (14, false)), false⟩,
   ⟨(some 16), (.load false 1 (.t 15)), (some (14, false)), false⟩,
   ⟨(some 17), (.len (.t 16)), (some (14, false)), false⟩,
   ⟨(some 18), (.faddr 1 (.t 3)), (some (14, false)), false⟩,
   ⟨(some 19), (.load false 1 (.t 18)), (some (14, false)), false⟩,
   ⟨(some 20), (.len (.t 19)), (some (14, false)), false⟩,
   ⟨(some 21), (.bin .num .neq (.t 17) (.t 20)), (some (14, false)), false⟩,
   ⟨(some 22), (.pick (.t 14) (.c (.bool true)) (.t 21)), none, false⟩]
@[simp] def c_fpref37_Same_r2 : List AOper :=
  [⟨(some 4), (.mv (.c (.bool false))), none, false⟩]
@[simp] def c_fpref37_Same_r3 : List AOper :=
  [⟨(some 5), (.mv (.c (.int .i64 0))), none, false⟩]
@[simp] def c_fpref37_Same_r4 : List AOper :=
  [⟨(some 23), (.mv (.t 5)), none, false⟩,
   ⟨(some 24), (.faddr 1 (.t 2)), none, false⟩,
   ⟨(some 25), (.load false 1 (.t 24)), none, false⟩,
   ⟨(some 26), (.len (.t 25)), none, false⟩,
   ⟨(some 27), (.bin .num .lss (.t 23) (.t 26)), none, false⟩]
@[simp] def c_fpref37_Same_r5 : List AOper :=
  [⟨(some 30), (.faddr 1 (.t 2)), none, false⟩,
   ⟨(some 31), (.load false 1 (.t 30)), none, false⟩,
   ⟨(some 32), (.mv (.t 5)), none, false⟩,
   ⟨(some 33), (.iaddr 8 (.t 31) (.t 32)), none, false⟩,
   ⟨(some 34), (.load true 8 (.t 33)), none, false⟩,
   ⟨(some 35), (.faddr 1 (.t 3)), none, false⟩,
   ⟨(some 36), (.sload false 1 35), none, false⟩,
   ⟨(some 37), (.mv (.t 5)), none, false⟩,
   ⟨(some 38), (.iaddr 8 (.t 36) (.t 37)), none, false⟩,
   ⟨(some 39), (.sload true 8 38), none, false⟩,
   ⟨(some 6), (.new 8 (.agg [(.bool false), .nil, (.int .i64 0), (.bool false), .nil, (.int .i64 0), .nil, .nil])), none, false⟩,
   ⟨(some 7), (.new 8 (.agg [(.bool false), .nil, (.int .i64 0), (.bool false), .nil, (.int .i64 0), .nil, .nil])), none, false⟩,
   ⟨none, (.storeN 8 (.t 6) (.t 34) [35, 38]), none, true⟩,
   ⟨none, (.store 8 (.t 7) (.t 39)), none, true⟩]
@[simp] def c_fpref37_Same_r6 : List AOper :=
  [⟨(some 40), (.faddr 0 (.t 6)), none, false⟩,
   ⟨(some 41), (.load true 3 (.t 40)), none, false⟩,
   ⟨(some 42), (.faddr 0 (.t 7)), none, false⟩,
   ⟨(some 43), (.load true 3 (.t 42)), none, false⟩,
   ⟨(some 44), (.call (.f 23) [(.t 41), (.t 43)]), none, false⟩,
   ⟨(some 45), (.un .not (.t 44)), none, false⟩,
   ⟨(some 46), (.mv (.t 45)), none, false⟩,
   ⟨(some 47), (.faddr 3 (.t 6)), (some (46, false)), false⟩,
   ⟨(some 48), (.load true 3 (.t 47)), (some (46, false)), false⟩,
   ⟨(some 49), (.faddr 3 (.t 7)), (some (46, false)), false⟩,
   ⟨(some 50), (.load true 3 (.t 49)), (some (46, false)), false⟩,
   ⟨(some 51), (.call (.f 23) [(.t 48), (.t 50)]), (some (46, false)), false⟩,
   ⟨(some 52), (.un .not (.t 51)), (some (46, false)), false⟩,
   ⟨(some 53), (.pick (.t 46) (.c (.bool true)) (.t 52)), none, false⟩,
   ⟨(some 54), (.mv (.t 53)), none, false⟩,
   ⟨(some 55), (.faddr 6 (.t 6)), (some (54, false)), false⟩,
   ⟨(some 56), (.load false 1 (.t 55)), (some (54, false)), false⟩,
   ⟨(some 57), (.faddr 6 (.t 7)), (some (54, false)), false⟩,
   ⟨(some 58), (.load false 1 (.t 57)), (some (54, false)), false⟩,
   ⟨(some 59), (.call (.f 20) [(.t 56), (.t 58)]), (some (54, false)), false⟩,
   ⟨(some 60), (.un .not (.t 59)), (some (54, false)), false⟩,
   ⟨(some 61), (.pick (.t 54) (.c (.bool true)) (.t 60)), none, false⟩,
   ⟨(some 62), (.mv (.t 61)), none, false⟩,
   ⟨(some 63), (.faddr 7 (.t 6)), (some (62, false)), false⟩,
   ⟨(some 64), (.load false 1 (.t 63)), (some (62, false)), false⟩,
   ⟨(some 65), (.faddr 7 (.t 7)), (some (62, false)), false⟩,
   ⟨(some 66), (.load false 1 (.t 65)), (some (62, false)), false⟩,
   ⟨(some 67), (.call (.f 20) [(.t 64), (.t 66)]), (some (62, false)), false⟩,
   ⟨(some 68), (.un .not (.t 67)), (some (62, false)), false⟩,
   ⟨(some 69), (.pick (.t 62) (.c (.bool true)) (.t 68)), none, false⟩]
@[simp] def c_fpref37_Same_r7 : List AOper :=
  [⟨(some 4), (.mv (.c (.bool false))), none, false⟩]
@[simp] def c_fpref37_Same_r8 : List AOper :=
  [⟨(some 28), (.mv (.t 5)), none, false⟩,
   ⟨(some 29), (.bin .num .add (.t 28) (.c (.int .i64 1))), none, false⟩,
   ⟨(some 5), (.mv (.t 29)), none, false⟩]
def c_fpref37_Same_l0 : AC := (.seq (.seq (.region false c_fpref37_Same_r4) (.cond (.t 27) .skip (.exit 0))) (.seq (.block 1 (.seq (.region true c_fpref37_Same_r5) (.seq (.region false c_fpref37_Same_r6) (.cond (.t 69) (.seq (.region false c_fpref37_Same_r7) .ret) .skip)))) (.region false c_fpref37_Same_r8)))
@[simp] def c_fpref37_Same_r9 : List AOper :=
  [⟨(some 4), (.mv (.c (.bool true))), none, false⟩]
@[simp] def c_fpref37_Same : AFn := ⟨[(.tmp 4)],
  (.seq (.region false c_fpref37_Same_r0) (.seq (.seq (.region false c_fpref37_Same_r1) (.cond (.t 22) (.seq (.region false c_fpref37_Same_r2) .ret) .skip)) (.seq (.seq (.region false c_fpref37_Same_r3) (.block 0 (.loop c_fpref37_Same_l0))) (.seq (.region false c_fpref37_Same_r9) .ret)))),
  false, false⟩

/- fpref37_Cut -/
@[simp] def c_fpref37_Cut_r0 : List AOper :=
  [⟨(some 2), (.box 2 (.t 0)), none, false⟩,
   ⟨(some 3), (.box 3 (.t 1)), none, false⟩,
   ⟨(some 4), (.new 2 (.agg [.nil, .nil])), none, false⟩]
@[simp] def c_fpref37_Cut_r1 : List AOper :=
  [⟨(some 8), (.faddr 0 (.t 2)), none, false⟩,
   ⟨(some 9), (.load false 1 (.t 8)), none, false⟩,
   ⟨(some 10), (.build [.nil, .nil] [(0, 1, (.t 9))]), none, false⟩,
   ⟨(some 5), (.new 2 (.agg [.nil, .nil])), none, false⟩,
   ⟨none, (.store 2 (.t 5) (.t 10)), none, false⟩]
@[simp] def c_fpref37_Cut_r2 : List AOper :=
  [⟨(some 6), (.mv (.c (.int .i64 0))), none, false⟩]
@[simp] def c_fpref37_Cut_r3 : List AOper :=
  [⟨(some 11), (.mv (.t 6)), none, false⟩,
   ⟨(some 12), (.faddr 1 (.t 2)), none, false⟩,
   ⟨(some 13), (.load false 1 (.t 12)), none, false⟩,
   ⟨(some 14), (.len (.t 13)), none, false⟩,
   ⟨(some 15), (.bin .num .lss (.t 11) (.t 14)), none, false⟩]
@[simp] def c_fpref37_Cut_r4 : List AOper :=
  [⟨(some 18), (.faddr 1 (.t 2)), none, false⟩,
   ⟨(some 19), (.load false 1 (.t 18)), none, false⟩,
   ⟨(some 20), (.mv (.t 6)), none, false⟩,
   ⟨(some 21), (.iaddr 8 (.t 19) (.t 20)), none, false⟩,
   ⟨(some 22), (.load true 8 (.t 21)), none, false⟩,
   ⟨(some 7), (.new 8 (.agg [(.bool false), .nil, (.int .i64 0), (.bool false), .nil, (.int .i64 0), .nil, .nil])), none, false⟩,
   ⟨none, (.store 8 (.t 7) (.t 22)), none, false⟩]
@[simp] def c_fpref37_Cut_r5 : List AOper :=
  [⟨(some 23), (.faddr 0 (.t 7)), none, false⟩,
   ⟨(some 24), (.load true 3 (.t 23)), none, false⟩,
   ⟨(some 25), (.load true 3 (.t 3)), none, false⟩,
   ⟨(some 26), (.call (.f 18) [(.t 24), (.t 25)]), none, false⟩,
   ⟨(some 27), (.bin .num .geq (.t 26) (.c (.int .i64 0))), none, false⟩]
@[simp] def c_fpref37_Cut_r6 : List AOper :=
  [⟨(some 28), (.load true 2 (.t 5)), none, false⟩,
   ⟨none, (.store 2 (.t 4) (.t 28)), none, false⟩]
@[simp] def c_fpref37_Cut_r7 : List AOper :=
  [⟨(some 29), (.load true 3 (.t 3)), none, false⟩,
   ⟨(some 30), (.faddr 3 (.t 7)), none, false⟩,
   ⟨(some 31), (.load true 3 (.t 30)), none, false⟩,
   ⟨(some 32), (.call (.f 18) [(.t 29), (.t 31)]), none, false⟩,
   ⟨(some 33), (.bin .num .lss (.t 32) (.c (.int .i64 0))), none, false⟩]
@[simp] def c_fpref37_Cut_r8 : List AOper :=
  [⟨(some 34), (.load true 3 (.t 3)), none, false⟩,
   ⟨(some 35), (.faddr 3 (.t 7)), none, false⟩,
   ⟨none, (.store 3 (.t 35) (.t 34)), none, false⟩]
@[simp] def c_fpref37_Cut_r9 : List AOper :=
  [⟨(some 36), (.faddr 6 (.t 7)), none, false⟩,
   ⟨(some 37), (.load false 1 (.t 36)), none, false⟩,
   ⟨(some 38), (.faddr 7 (.t 7)), none, false⟩,
   ⟨none, (.store 1 (.t 38) (.t 37)), none, false⟩]
@[simp] def c_fpref37_Cut_r10 : List AOper :=
  [⟨(some 39), (.faddr 1 (.t 5)), none, false⟩,
   ⟨(some 40), (.load false 1 (.t 39)), none, false⟩,
   ⟨(some 41), (.load true 8 (.t 7)), none, false⟩,
   ⟨(some 42), (.bslice 8 1 (.agg [(.bool false), .nil, (.int .i64 0), (.bool false), .nil, (.int .i64 0), .nil, .nil]) [(0, (.t 41))]), none, false⟩,
   ⟨(some 43), (.append 8 128 (.t 40) (.t 42)), none, false⟩,
   ⟨(some 44), (.faddr 1 (.t 5)), none, false⟩,
   ⟨none, (.store 1 (.t 44) (.t 43)), none, false⟩]
@[simp] def c_fpref37_Cut_r11 : List AOper :=
  [⟨(some 16), (.mv (.t 6)), none, false⟩,
   ⟨(some 17), (.bin .num .add (.t 16) (.c (.int .i64 1))), none, false⟩,
   ⟨(some 6), (.mv (.t 17)), none, false⟩]
def c_fpref37_Cut_l0 : AC := (.seq (.seq (.region false c_fpref37_Cut_r3) (.cond (.t 15) .skip (.exit 0))) (.seq (.block 1 (.seq (.region false c_fpref37_Cut_r4) (.seq (.seq (.region false c_fpref37_Cut_r5) (.cond (.t 27) (.seq (.region false c_fpref37_Cut_r6) .ret) .skip)) (.seq (.seq (.region false c_fpref37_Cut_r7) (.cond (.t 33) (.seq (.region false c_fpref37_Cut_r8) (.region false c_fpref37_Cut_r9)) .skip)) (.region false c_fpref37_Cut_r10))))) (.region false c_fpref37_Cut_r11)))
@[simp] def c_fpref37_Cut_r12 : List AOper :=
  [⟨(some 45), (.load true 2 (.t 5)), none, false⟩,
   ⟨none, (.store 2 (.t 4) (.t 45)), none, false⟩]
@[simp] def c_fpref37_Cut : AFn := ⟨[(.cell 4 true 2)],
  (.seq (.region false c_fpref37_Cut_r0) (.seq (.region false c_fpref37_Cut_r1) (.seq (.seq (.region false c_fpref37_Cut_r2) (.block 0 (.loop c_fpref37_Cut_l0))) (.seq (.region false c_fpref37_Cut_r12) .ret)))),
  false, false⟩

/- pipe_Valid -/
@[simp] def c_pipe_Valid_r0 : List AOper :=
  [⟨(some 1), (.box 2 (.t 0)), none, false⟩,
   ⟨(some 2), (.mv (.c (.bool false))), none, false⟩]
@[simp] def c_pipe_Valid_r1 : List AOper :=
  [⟨(some 7), (.faddr 0 (.t 1)), none, false⟩,
   ⟨(some 8), (.load false 1 (.t 7)), none, false⟩,
   ⟨(some 9), (.len (.t 8)), none, false⟩,
   ⟨(some 3), (.mv (.t 9)), none, false⟩]
@[simp] def c_pipe_Valid_r2 : List AOper :=
  [⟨(some 10), (.faddr 0 (.t 1)), none, false⟩,
   ⟨(some 11), (.load false 1 (.t 10)), none, false⟩,
   ⟨(some 12), (.call (.f 50) [(.t 11)]), none, false⟩,
   ⟨(some 13), (.un .not (.t 12)), none, false⟩,
   ⟨(some 14), (.mv (.t 13)), none, false⟩,
   ⟨(some 15), (.mv (.t 3)), (some (14, false)), false⟩,
   ⟨(some 16), (.bin .num .gtr (.t 15) (.c (.int .i64 4))), (some (14, false)), false⟩,
   ⟨(some 17), (.pick (.t 14) (.c (.bool true)) (.t 16)), none, false⟩,
   ⟨(some 18), (.mv (.t 17)), none, false⟩,
   ⟨(some 19), (.faddr 1 (.t 1)), (some (18, false)), false⟩,
   ⟨(some 20), (.load false 1 (.t 19)), (some (18, false)), false⟩,
   ⟨(some 21), (.len (.t 20)), (some (18, false)), false⟩,
   ⟨(some 22), (.bin .num .gtr (.t 21) (.c (.int .i64 1000))), (some (18, false)), false⟩,
   ⟨(some 23), (.pick (.t 18) (.c (.bool true)) (.t 22)), none, false⟩]
@[simp] def c_pipe_Valid_r3 : List AOper :=
  [⟨(some 2), (.mv (.c (.bool false))), none, false⟩]
@[simp] def c_pipe_Valid_r4 : List AOper :=
  [⟨(some 24), (.faddr 0 (.t 1)), none, false⟩,
   ⟨(some 25), (.load false 1 (.t 24)), none, false⟩,
   ⟨(some 4), (.mv (.t 25)), none, false⟩]
@[simp] def c_pipe_Valid_r5 : List AOper :=
  [⟨(some 26), (.faddr 1 (.t 1)), none, false⟩,
   ⟨(some 27), (.load false 1 (.t 26)), none, false⟩,
   ⟨(some 28), (.len (.t 27)), none, false⟩,
   ⟨(some 29), (.mv (.c (.int .i64 0))), none, false⟩]
@[simp] def c_pipe_Valid_r6 : List AOper :=
  [⟨(some 30), (.bin .num .lss (.t 29) (.t 28)), none, false⟩]
@[simp] def c_pipe_Valid_r7 : List AOper :=
  [⟨(some 31), (.mv (.t 29)), none, false⟩,
   ⟨(some 32), (.iaddr 8 (.t 27) (.t 29)), none, false⟩,
   ⟨(some 33), (.load true 8 (.t 32)), none, false⟩,
   ⟨(some 6), (.new 8 (.agg [(.bool false), .nil, (.int .i64 0), (.bool false), .nil, (.int .i64 0), .nil, .nil])), none, false⟩,
   ⟨(some 5), (.mv (.t 31)), none, false⟩,
   ⟨none, (.store 8 (.t 6) (.t 33)), none, false⟩]
@[simp] def c_pipe_Valid_r8 : List AOper :=
  [⟨(some 34), (.faddr 0 (.t 6)), none, false⟩,
   ⟨(some 35), (.load true 3 (.t 34)), none, false⟩,
   ⟨(some 36), (.call (.f 51) [(.t 35)]), none, true⟩,
   ⟨(some 37), (.un .not (.t 36)), none, false⟩,
   ⟨(some 38), (.mv (.t 37)), none, false⟩,
   ⟨(some 39), (.faddr 3 (.t 6)), (some (38, false)), false⟩,
   ⟨(some 40), (.load true 3 (.t 39)), (some (38, false)), false⟩,
   ⟨(some 41), (.call (.f 51) [(.t 40)]), (some (38, false)), true⟩,
   ⟨(some 42), (.un .not (.t 41)), (some (38, false)), false⟩,
   ⟨(some 43), (.pick (.t 38) (.c (.bool true)) (.t 42)), none, false⟩,
   ⟨(some 44), (.mv (.t 43)), none, false⟩,
   ⟨(some 45), (.faddr 0 (.t 6)), (some (44, false)), false⟩,
   ⟨(some 46), (.load true 3 (.t 45)), (some (44, false)), false⟩,
   ⟨(some 47), (.faddr 3 (.t 6)), (some (44, false)), false⟩,
   ⟨(some 48), (.load true 3 (.t 47)), (some (44, false)), false⟩,
   ⟨(some 49), (.call (.f 46) [(.t 46), (.t 48)]), (some (44, false)), true⟩,
   ⟨(some 50), (.un .not (.t 49)), (some (44, false)), false⟩,
   ⟨(some 51), (.pick (.t 44) (.c (.bool true)) (.t 50)), none, false⟩,
   ⟨(some 52), (.mv (.t 51)), none, false⟩,
   ⟨(some 53), (.faddr 6 (.t 6)), (some (52, false)), false⟩,
   ⟨(some 54), (.load false 1 (.t 53)), (some (52, false)), false⟩,
   ⟨(some 55), (.len (.t 54)), (some (52, false)), false⟩,
   ⟨(some 56), (.mv (.t 3)), (some (52, false)), false⟩,
   ⟨(some 57), (.bin .num .neq (.t 55) (.t 56)), (some (52, false)), false⟩,
   ⟨(some 58), (.pick (.t 52) (.c (.bool true)) (.t 57)), none, false⟩,
   ⟨(some 59), (.mv (.t 58)), none, false⟩,
   ⟨(some 60), (.mv (.t 5)), (some (59, false)), false⟩,
   ⟨(some 61), (.bin .num .gtr (.t 60) (.c (.int .i64 0))), (some (59, false)), false⟩,
   ⟨(some 62), (.mv (.t 61)), (some (59, false)), false⟩,
   ⟨(some 63), (.faddr 0 (.t 6)), (some (62, true)), false⟩,
   ⟨(some 64), (.load true 3 (.t 63)), (some (62, true)), false⟩,
   ⟨(some 65), (.faddr 1 (.t 1)), (some (62, true)), false⟩,
   ⟨(some 66), (.load false 1 (.t 65)), (some (62, true)), false⟩,
   ⟨(some 67), (.mv (.t 5)), (some (62, true)), false⟩,
   ⟨(some 68), (.bin .num .sub (.t 67) (.c (.int .i64 1))), (some (62, true)), false⟩,
   ⟨(some 69), (.iaddr 8 (.t 66) (.t 68)), (some (62, true)), false⟩,
   ⟨(some 70), (.faddr 3 (.t 69)), (some (62, true)), false⟩,
   ⟨(some 71), (.load true 3 (.t 70)), (some (62, true)), false⟩,
   ⟨(some 72), (.call (.f 52) [(.t 64), (.t 71)]), (some (62, true)), true⟩,
   ⟨(some 73), (.bin .num .neq (.t 72) (.c (.int .i64 0))), (some (62, true)), false⟩,
   ⟨(some 74), (.pick (.t 62) (.t 73) (.c (.bool false))), (some (59, false)), false⟩,
   ⟨(some 75), (.pick (.t 59) (.c (.bool true)) (.t 74)), none, false⟩,
   ⟨(some 76), (.mv (.t 75)), none, false⟩,
   ⟨(some 77), (.faddr 7 (.t 6)), (some (76, false)), false⟩,
   ⟨(some 78), (.load false 1 (.t 77)), (some (76, false)), false⟩,
   ⟨(some 79), (.faddr 6 (.t 6)), (some (76, false)), false⟩,
   ⟨(some 80), (.load false 1 (.t 79)), (some (76, false)), false⟩,
   ⟨(some 81), (.call (.f 53) [(.t 78), (.t 80)]), (some (76, false)), true⟩,
   ⟨(some 82), (.un .not (.t 81)), (some (76, false)), false⟩,
   ⟨(some 83), (.pick (.t 76) (.c (.bool true)) (.t 82)), none, false⟩,
   ⟨(some 84), (.mv (.t 83)), none, false⟩,
   ⟨(some 85), (.mv (.t 4)), (some (84, false)), false⟩,
   ⟨(some 86), (.faddr 6 (.t 6)), (some (84, false)), false⟩,
   ⟨(some 87), (.load false 1 (.t 86)), (some (84, false)), false⟩,
   ⟨(some 88), (.call (.f 53) [(.t 85), (.t 87)]), (some (84, false)), true⟩,
   ⟨(some 89), (.un .not (.t 88)), (some (84, false)), false⟩,
   ⟨(some 90), (.pick (.t 84) (.c (.bool true)) (.t 89)), none, false⟩]
@[simp] def c_pipe_Valid_r9 : List AOper :=
  [⟨(some 2), (.mv (.c (.bool false))), none, false⟩]
@[simp] def c_pipe_Valid_r10 : List AOper :=
  [⟨(some 91), (.faddr 7 (.t 6)), none, false⟩,
   ⟨(some 92), (.load false 1 (.t 91)), none, false⟩,
   ⟨(some 4), (.mv (.t 92)), none, false⟩]
@[simp] def c_pipe_Valid_r11 : List AOper :=
  [⟨(some 93), (.bin .num .add (.t 29) (.c (.int .i64 1))), none, false⟩,
   ⟨(some 29), (.mv (.t 93)), none, false⟩]
def c_pipe_Valid_l0 : AC := (.seq (.region false c_pipe_Valid_r6) (.seq (.cond (.t 30) .skip (.exit 0)) (.seq (.block 1 (.seq (.region false c_pipe_Valid_r7) (.seq (.seq (.region true c_pipe_Valid_r8) (.cond (.t 90) (.seq (.region false c_pipe_Valid_r9) .ret) .skip)) (.region false c_pipe_Valid_r10)))) (.region false c_pipe_Valid_r11))))
@[simp] def c_pipe_Valid_r12 : List AOper :=
  [⟨(some 2), (.mv (.c (.bool true))), none, false⟩]
@[simp] def c_pipe_Valid : AFn := ⟨[(.tmp 2)],
  (.seq (.region false c_pipe_Valid_r0) (.seq (.region false c_pipe_Valid_r1) (.seq (.seq (.region false c_pipe_Valid_r2) (.cond (.t 23) (.seq (.region false c_pipe_Valid_r3) .ret) .skip)) (.seq (.region false c_pipe_Valid_r4) (.seq (.seq (.region false c_pipe_Valid_r5) (.block 0 (.loop c_pipe_Valid_l0))) (.seq (.region false c_pipe_Valid_r12) .ret)))))),
  false, false⟩

/- fpref02_Cmp -/
@[simp] def c_fpref02_Cmp_r0 : List AOper :=
  [⟨(some 2), (.box 3 (.t 0)), none, false⟩,
   ⟨(some 3), (.box 3 (.t 1)), none, false⟩,
   ⟨(some 4), (.mv (.c (.int .i64 0))), none, false⟩]
@[simp] def c_fpref02_Cmp_r1 : List AOper :=
  [⟨(some 7), (.load true 3 (.t 2)), none, false⟩,
   ⟨(some 8), (.call (.f 54) [(.t 7)]), none, false⟩,
   ⟨(some 9), (.load true 3 (.t 3)), none, false⟩,
   ⟨(some 10), (.call (.f 54) [(.t 9)]), none, true⟩,
   ⟨(some 5), (.mv (.t 8)), none, false⟩,
   ⟨(some 6), (.mv (.t 10)), none, false⟩]
@[simp] def c_fpref02_Cmp_r2 : List AOper :=
  [⟨(some 11), (.mv (.t 5)), none, false⟩,
   ⟨(some 12), (.mv (.t 6)), none, false⟩,
   ⟨(some 13), (.bin .num .neq (.t 11) (.t 12)), none, false⟩]
@[simp] def c_fpref02_Cmp_r3 : List AOper :=
  [⟨(some 14), (.mv (.t 5)), none, false⟩,
   ⟨(some 15), (.mv (.t 6)), none, false⟩,
   ⟨(some 16), (.bin .num .lss (.t 14) (.t 15)), none, false⟩]
@[simp] def c_fpref02_Cmp_r4 : List AOper :=
  [⟨(some 4), (.mv (.c (.int .i64 (-1)))), none, false⟩]
@[simp] def c_fpref02_Cmp_r5 : List AOper :=
  [⟨(some 4), (.mv (.c (.int .i64 1))), none, false⟩]
@[simp] def c_fpref02_Cmp_r6 : List AOper :=
  [⟨(some 17), (.mv (.t 5)), none, false⟩,
   ⟨(some 18), (.bin .num .eql (.t 17) (.c (.int .i64 0))), none, false⟩]
@[simp] def c_fpref02_Cmp_r7 : List AOper :=
  [⟨(some 4), (.mv (.c (.int .i64 0))), none, false⟩]
@[simp] def c_fpref02_Cmp_r8 : List AOper :=
  [⟨(some 19), (.load true 3 (.t 2)), none, false⟩,
   ⟨(some 20), (.call (.f 55) [(.t 19)]), none, false⟩,
   ⟨(some 21), (.load true 3 (.t 3)), none, false⟩,
   ⟨(some 22), (.call (.f 55) [(.t 21)]), none, true⟩,
   ⟨(some 23), (.bin .num .neq (.t 20) (.t 22)), none, false⟩]
@[simp] def c_fpref02_Cmp_r9 : List AOper :=
  [⟨(some 24), (.load true 3 (.t 2)), none, false⟩,
   ⟨(some 25), (.call (.f 55) [(.t 24)]), none, false⟩,
   ⟨(some 26), (.load true 3 (.t 3)), none, false⟩,
   ⟨(some 27), (.call (.f 55) [(.t 26)]), none, true⟩,
   ⟨(some 28), (.bin .num .lss (.t 25) (.t 27)), none, false⟩,
   ⟨(some 29), (.mv (.t 5)), none, false⟩,
   ⟨(some 30), (.bin .num .gtr (.t 29) (.c (.int .i64 0))), none, false⟩,
   ⟨(some 31), (.bin .bool .eql (.t 28) (.t 30)), none, false⟩]
@[simp] def c_fpref02_Cmp_r10 : List AOper :=
  [⟨(some 4), (.mv (.c (.int .i64 (-1)))), none, false⟩]
@[simp] def c_fpref02_Cmp_r11 : List AOper :=
  [⟨(some 4), (.mv (.c (.int .i64 1))), none, false⟩]
@[simp] def c_fpref02_Cmp_r12 : List AOper :=
  [⟨(some 32), (.load true 3 (.t 2)), none, false⟩,
   ⟨(some 33), (.load true 3 (.t 3)), none, false⟩,
   ⟨(some 34), (.call (.f 57) [(.t 33)]), none, false⟩,
   ⟨(some 35), (.call (.f 56) [(.t 32), (.t 34)]), none, true⟩,
   ⟨(some 36), (.call (.f 54) [(.t 35)]), none, true⟩,
   ⟨(some 4), (.mv (.t 36)), none, false⟩]
@[simp] def c_fpref02_Cmp : AFn := ⟨[(.tmp 4)],
  (.seq (.region false c_fpref02_Cmp_r0) (.seq (.region true c_fpref02_Cmp_r1) (.seq (.seq (.region false c_fpref02_Cmp_r2) (.cond (.t 13) (.seq (.seq (.region false c_fpref02_Cmp_r3) (.cond (.t 16) (.seq (.region false c_fpref02_Cmp_r4) .ret) .skip)) (.seq (.region false c_fpref02_Cmp_r5) .ret)) .skip)) (.seq (.seq (.region false c_fpref02_Cmp_r6) (.cond (.t 18) (.seq (.region false c_fpref02_Cmp_r7) .ret) .skip)) (.seq (.seq (.region true c_fpref02_Cmp_r8) (.cond (.t 23) (.seq (.seq (.region true c_fpref02_Cmp_r9) (.cond (.t 31) (.seq (.region false c_fpref02_Cmp_r10) .ret) .skip)) (.seq (.region false c_fpref02_Cmp_r11) .ret)) .skip)) (.seq (.region true c_fpref02_Cmp_r12) .ret)))))),
  false, false⟩

/- pipe_At -/
@[simp] def c_pipe_At_r0 : List AOper :=
  [⟨(some 2), (.box 2 (.t 0)), none, false⟩,
   ⟨(some 3), (.box 3 (.t 1)), none, false⟩,
   ⟨(some 4), (.mv (.c .nil)), none, false⟩,
   ⟨(some 5), (.mv (.c (.int .i64 0))), none, false⟩]
@[simp] def c_pipe_At_r1 : List AOper :=
  [⟨(some 7), (.load true 2 (.t 2)), none, false⟩,
   ⟨(some 8), (.call (.f 17) [(.t 7)]), none, false⟩,
   ⟨(some 9), (.un .not (.t 8)), none, false⟩,
   ⟨(some 10), (.mv (.t 9)), none, false⟩,
   ⟨(some 11), (.load true 3 (.t 3)), (some (10, false)), false⟩,
   ⟨(some 12), (.call (.f 51) [(.t 11)]), (some (10, false)), false⟩,
   ⟨(some 13), (.un .not (.t 12)), (some (10, false)), false⟩,
   ⟨(some 14), (.pick (.t 10) (.c (.bool true)) (.t 13)), none, false⟩,
   ⟨(some 6), (.mv (.t 14)), none, false⟩]
@[simp] def c_pipe_At_r2 : List AOper :=
  [⟨(some 4), (.mv (.c .nil)), none, false⟩,
   ⟨(some 5), (.mv (.c (.int .i64 1))), none, false⟩]
@[simp] def c_pipe_At_r3 : List AOper :=
  [⟨(some 16), (.load true 2 (.t 2)), none, false⟩,
   ⟨(some 17), (.load true 3 (.t 3)), none, false⟩,
   ⟨(some 18), (.call (.f 58) [(.t 16), (.t 17)]), none, false⟩,
   ⟨(some 19), (.un .not (.t 18)), none, false⟩,
   ⟨(some 15), (.mv (.t 19)), none, false⟩]
@[simp] def c_pipe_At_r4 : List AOper :=
  [⟨(some 4), (.mv (.c .nil)), none, false⟩,
   ⟨(some 5), (.mv (.c (.int .i64 2))), none, false⟩]
@[simp] def c_pipe_At_r5 : List AOper :=
  [⟨(some 20), (.load true 2 (.t 2)), none, false⟩,
   ⟨(some 21), (.load true 3 (.t 3)), none, false⟩,
   ⟨(some 22), (.call (.f 59) [(.t 20), (.t 21)]), none, false⟩,
   ⟨(some 4), (.mv (.t 22)), none, false⟩,
   ⟨(some 5), (.mv (.c (.int .i64 0))), none, false⟩]
@[simp] def c_pipe_At : AFn := ⟨[(.tmp 4), (.tmp 5)],
  (.seq (.region false c_pipe_At_r0) (.seq (.block 0 (.seq (.region false c_pipe_At_r1) (.cond (.t 6) (.seq (.region false c_pipe_At_r2) .ret) (.seq (.region false c_pipe_At_r3) (.cond (.t 15) (.seq (.region false c_pipe_At_r4) .ret) .skip))))) (.seq (.region false c_pipe_At_r5) .ret))),
  false, false⟩

/- fpref37_Equal -/
@[simp] def c_fpref37_Equal_r0 : List AOper :=
  [⟨(some 4), (.mv (.c (.bool false))), none, false⟩]
@[simp] def c_fpref37_Equal_r1 : List AOper :=
  [⟨(some 6), (.mv (.t 0)), none, false⟩,
   ⟨(some 7), (.len (.t 6)), none, false⟩,
   ⟨(some 8), (.mv (.t 1)), none, false⟩,
   ⟨(some 9), (.len (.t 8)), none, false⟩,
   ⟨(some 10), (.bin .num .neq (.t 7) (.t 9)), none, false⟩]
@[simp] def c_fpref37_Equal_r2 : List AOper :=
  [⟨(some 4), (.mv (.c (.bool false))), none, false⟩]
@[simp] def c_fpref37_Equal_r3 : List AOper :=
  [⟨(some 5), (.mv (.c (.int .i64 0))), none, false⟩]
@[simp] def c_fpref37_Equal_r4 : List AOper :=
  [⟨(some 11), (.mv (.t 5)), none, false⟩,
   ⟨(some 12), (.mv (.t 0)), none, false⟩,
   ⟨(some 13), (.len (.t 12)), none, false⟩,
   ⟨(some 14), (.bin .num .lss (.t 11) (.t 13)), none, false⟩]
@[simp] def c_fpref37_Equal_r5 : List AOper :=
  [⟨(some 17), (.mv (.t 0)), none, false⟩,
   ⟨(some 18), (.mv (.t 5)), none, false⟩,
   ⟨(some 19), (.iaddr 7 (.t 17) (.t 18)), none, false⟩,
   ⟨(some 20), (.load true 7 (.t 19)), none, false⟩,
   ⟨(some 21), (.mv (.t 1)), none, false⟩,
   ⟨(some 22), (.mv (.t 5)), none, false⟩,
   ⟨(some 23), (.iaddr 7 (.t 21) (.t 22)), none, false⟩,
   ⟨(some 24), (.load true 7 (.t 23)), none, false⟩,
   ⟨(some 25), (.call (.f 60) [(.t 20), (.t 24)]), none, true⟩,
   ⟨(some 26), (.un .not (.t 25)), none, false⟩]
@[simp] def c_fpref37_Equal_r6 : List AOper :=
  [⟨(some 4), (.mv (.c (.bool false))), none, false⟩]
@[simp] def c_fpref37_Equal_r7 : List AOper :=
  [⟨(some 15), (.mv (.t 5)), none, false⟩,
   ⟨(some 16), (.bin .num .add (.t 15) (.c (.int .i64 1))), none, false⟩,
   ⟨(some 5), (.mv (.t 16)), none, false⟩]
def c_fpref37_Equal_l0 : AC := (.seq (.seq (.region false c_fpref37_Equal_r4) (.cond (.t 14) .skip (.exit 0))) (.seq (.block 1 (.seq (.region true c_fpref37_Equal_r5) (.cond (.t 26) (.seq (.region false c_fpref37_Equal_r6) .ret) .skip))) (.region false c_fpref37_Equal_r7)))
@[simp] def c_fpref37_Equal_r8 : List AOper :=
  [⟨(some 4), (.mv (.c (.bool true))), none, false⟩]
@[simp] def c_fpref37_Equal : AFn := ⟨[(.tmp 4)],
  (.seq (.region false c_fpref37_Equal_r0) (.seq (.seq (.region false c_fpref37_Equal_r1) (.cond (.t 10) (.seq (.region false c_fpref37_Equal_r2) .ret) .skip)) (.seq (.seq (.region false c_fpref37_Equal_r3) (.block 0 (.loop c_fpref37_Equal_l0))) (.seq (.region false c_fpref37_Equal_r8) .ret)))),
  false, false⟩

/- pipe_End -/
@[simp] def c_pipe_End_r0 : List AOper :=
  [⟨(some 1), (.box 2 (.t 0)), none, false⟩,
   ⟨(some 2), (.mv (.c .nil)), none, false⟩,
   ⟨(some 3), (.new 3 (.agg [(.bool false), .nil, (.int .i64 0)])), none, false⟩,
   ⟨(some 4), (.mv (.c (.int .i64 0))), none, false⟩]
@[simp] def c_pipe_End_r1 : List AOper :=
  [⟨(some 6), (.load true 2 (.t 1)), none, false⟩,
   ⟨(some 7), (.call (.f 17) [(.t 6)]), none, false⟩,
   ⟨(some 8), (.un .not (.t 7)), none, false⟩,
   ⟨(some 5), (.mv (.t 8)), none, false⟩]
@[simp] def c_pipe_End_r2 : List AOper :=
  [⟨(some 9), (.build [(.bool false), .nil, (.int .i64 0)] []), none, false⟩,
   ⟨(some 2), (.mv (.c .nil)), none, false⟩,
   ⟨none, (.store 3 (.t 3) (.t 9)), none, false⟩,
   ⟨(some 4), (.mv (.c (.int .i64 1))), none, false⟩]
@[simp] def c_pipe_End_r3 : List AOper :=
  [⟨(some 11), (.faddr 1 (.t 1)), none, false⟩,
   ⟨(some 12), (.load false 1 (.t 11)), none, false⟩,
   ⟨(some 13), (.len (.t 12)), none, false⟩,
   ⟨(some 14), (.bin .num .eql (.t 13) (.c (.int .i64 0))), none, false⟩,
   ⟨(some 10), (.mv (.t 14)), none, false⟩]
@[simp] def c_pipe_End_r4 : List AOper :=
  [⟨(some 15), (.build [(.bool false), .nil, (.int .i64 0)] []), none, false⟩,
   ⟨(some 2), (.mv (.c .nil)), none, false⟩,
   ⟨none, (.store 3 (.t 3) (.t 15)), none, false⟩,
   ⟨(some 4), (.mv (.c (.int .i64 7))), none, false⟩]
@[simp] def c_pipe_End_r5 : List AOper :=
  [⟨(some 16), (.load true 2 (.t 1)), none, false⟩,
   ⟨(some 17), (.call (.f 61) [(.t 16)]), none, false⟩,
   ⟨(some 18), (.field false 7 1 (.t 17)), none, false⟩,
   ⟨(some 19), (.call (.f 47) [(.t 18)]), none, false⟩,
   ⟨(some 20), (.load true 2 (.t 1)), none, false⟩,
   ⟨(some 21), (.call (.f 61) [(.t 20)]), none, true⟩,
   ⟨(some 22), (.field true 3 3 (.t 21)), none, false⟩,
   ⟨(some 2), (.mv (.t 19)), none, false⟩,
   ⟨none, (.store 3 (.t 3) (.t 22)), none, true⟩,
   ⟨(some 4), (.mv (.c (.int .i64 0))), none, false⟩]
@[simp] def c_pipe_End : AFn := ⟨[(.tmp 2), (.cell 3 true 3), (.tmp 4)],
  (.seq (.region false c_pipe_End_r0) (.seq (.block 0 (.seq (.region false c_pipe_End_r1) (.cond (.t 5) (.seq (.region false c_pipe_End_r2) .ret) (.seq (.region false c_pipe_End_r3) (.cond (.t 10) (.seq (.region false c_pipe_End_r4) .ret) .skip))))) (.seq (.region true c_pipe_End_r5) .ret))),
  false, false⟩

/- pipe_All -/
@[simp] def c_pipe_All_r0 : List AOper :=
  [⟨(some 1), (.box 2 (.t 0)), none, false⟩,
   ⟨(some 2), (.mv (.c .nilfn)), none, false⟩]
@[simp] def c_pipe_All_r1 : List AOper :=
  [⟨(some 3), (.mkfn 62 [(.t 1)]), none, false⟩,
   ⟨(some 2), (.mv (.t 3)), none, false⟩]
@[simp] def c_pipe_All : AFn := ⟨[(.tmp 2)],
  (.seq (.region false c_pipe_All_r0) (.seq (.region false c_pipe_All_r1) .ret)),
  false, false⟩

/- fpref02_Equal -/
@[simp] def c_fpref02_Equal_r0 : List AOper :=
  [⟨(some 2), (.box 3 (.t 0)), none, false⟩,
   ⟨(some 3), (.box 3 (.t 1)), none, false⟩,
   ⟨(some 4), (.mv (.c (.bool false))), none, false⟩]
@[simp] def c_fpref02_Equal_r1 : List AOper :=
  [⟨(some 5), (.faddr 0 (.t 2)), none, false⟩,
   ⟨(some 6), (.load false 1 (.t 5)), none, false⟩,
   ⟨(some 7), (.faddr 0 (.t 3)), none, false⟩,
   ⟨(some 8), (.load false 1 (.t 7)), none, false⟩,
   ⟨(some 9), (.bin .bool .eql (.t 6) (.t 8)), none, false⟩,
   ⟨(some 10), (.mv (.t 9)), none, false⟩,
   ⟨(some 11), (.faddr 2 (.t 2)), (some (10, true)), false⟩,
   ⟨(some 12), (.load false 1 (.t 11)), (some (10, true)), false⟩,
   ⟨(some 13), (.faddr 2 (.t 3)), (some (10, true)), false⟩,
   ⟨(some 14), (.load false 1 (.t 13)), (some (10, true)), false⟩,
   ⟨(some 15), (.bin .num .eql (.t 12) (.t 14)), (some (10, true)), false⟩,
   ⟨(some 16), (.pick (.t 10) (.t 15) (.c (.bool false))), none, false⟩,
   ⟨(some 17), (.mv (.t 16)), none, false⟩,
   ⟨(some 18), (.faddr 1 (.t 2)), (some (17, true)), false⟩,
   ⟨(some 19), (.load false 1 (.t 18)), (some (17, true)), false⟩,
   ⟨(some 20), (.len (.t 19)), (some (17, true)), false⟩,
   ⟨(some 21), (.faddr 1 (.t 3)), (some (17, true)), false⟩,
   ⟨(some 22), (.load false 1 (.t 21)), (some (17, true)), false⟩,
   ⟨(some 23), (.len (.t 22)), (some (17, true)), false⟩,
   ⟨(some 24), (.bin .num .eql (.t 20) (.t 23)), (some (17, true)), false⟩,
   ⟨(some 25), (.pick (.t 17) (.t 24) (.c (.bool false))), none, false⟩,
   ⟨(some 26), (.mv (.t 25)), none, false⟩,
   ⟨(some 27), (.faddr 1 (.t 2)), (some (26, true)), false⟩,
   ⟨(some 28), (.load false 1 (.t 27)), (some (26, true)), false⟩,
   ⟨(some 29), (.faddr 1 (.t 3)), (some (26, true)), false⟩,
   ⟨(some 30), (.load false 1 (.t 29)), (some (26, true)), false⟩,
   ⟨(some 31), (.call (.f 63) [(.t 28), (.t 30)]), (some (26, true)), false⟩,
   ⟨(some 32), (.bin .num .eql (.t 31) (.c (.int .i64 0))), (some (26, true)), false⟩,
   ⟨(some 33), (.pick (.t 26) (.t 32) (.c (.bool false))), none, false⟩,
   ⟨(some 4), (.mv (.t 33)), none, false⟩]
@[simp] def c_fpref02_Equal : AFn := ⟨[(.tmp 4)],
  (.seq (.region false c_fpref02_Equal_r0) (.seq (.region false c_fpref02_Equal_r1) .ret)),
  false, false⟩

/- fpref37_Last -/
@[simp] def c_fpref37_Last_r0 : List AOper :=
  [⟨(some 1), (.box 2 (.t 0)), none, false⟩,
   ⟨(some 2), (.new 3 (.agg [(.bool false), .nil, (.int .i64 0)])), none, false⟩]
@[simp] def c_fpref37_Last_r1 : List AOper :=
  [⟨(some 3), (.faddr 1 (.t 1)), none, false⟩,
   ⟨(some 4), (.load false 1 (.t 3)), none, false⟩,
   ⟨(some 5), (.faddr 1 (.t 1)), none, false⟩,
   ⟨(some 6), (.load false 1 (.t 5)), none, false⟩,
   ⟨(some 7), (.len (.t 6)), none, false⟩,
   ⟨(some 8), (.bin .num .sub (.t 7) (.c (.int .i64 1))), none, false⟩,
   ⟨(some 9), (.iaddr 8 (.t 4) (.t 8)), none, false⟩,
   ⟨(some 10), (.faddr 3 (.t 9)), none, false⟩,
   ⟨(some 11), (.load true 3 (.t 10)), none, false⟩,
   ⟨none, (.store 3 (.t 2) (.t 11)), none, false⟩]
@[simp] def c_fpref37_Last : AFn := ⟨[(.cell 2 true 3)],
  (.seq (.region false c_fpref37_Last_r0) (.seq (.region false c_fpref37_Last_r1) .ret)),
  false, false⟩

/- pipe_Join -/
@[simp] def c_pipe_Join_r0 : List AOper :=
  [⟨(some 2), (.box 2 (.t 0)), none, false⟩,
   ⟨(some 3), (.box 2 (.t 1)), none, false⟩,
   ⟨(some 4), (.new 2 (.agg [.nil, .nil])), none, false⟩,
   ⟨(some 5), (.mv (.c (.int .i64 0))), none, false⟩]
@[simp] def c_pipe_Join_r1 : List AOper :=
  [⟨(some 8), (.load true 2 (.t 2)), none, false⟩,
   ⟨(some 9), (.call (.f 17) [(.t 8)]), none, false⟩,
   ⟨(some 10), (.un .not (.t 9)), none, false⟩,
   ⟨(some 11), (.mv (.t 10)), none, false⟩,
   ⟨(some 12), (.load true 2 (.t 3)), (some (11, false)), false⟩,
   ⟨(some 13), (.call (.f 17) [(.t 12)]), (some (11, false)), false⟩,
   ⟨(some 14), (.un .not (.t 13)), (some (11, false)), false⟩,
   ⟨(some 15), (.pick (.t 11) (.c (.bool true)) (.t 14)), none, false⟩,
   ⟨(some 7), (.mv (.t 15)), none, false⟩]
@[simp] def c_pipe_Join_r2 : List AOper :=
  [⟨(some 16), (.build [.nil, .nil] []), none, false⟩,
   ⟨none, (.store 2 (.t 4) (.t 16)), none, false⟩,
   ⟨(some 5), (.mv (.c (.int .i64 1))), none, false⟩]
@[simp] def c_pipe_Join_r3 : List AOper :=
  [⟨(some 18), (.faddr 1 (.t 2)), none, false⟩,
   ⟨(some 19), (.load false 1 (.t 18)), none, false⟩,
   ⟨(some 20), (.len (.t 19)), none, false⟩,
   ⟨(some 21), (.bin .num .eql (.t 20) (.c (.int .i64 0))), none, false⟩,
   ⟨(some 22), (.mv (.t 21)), none, false⟩,
   ⟨(some 23), (.faddr 1 (.t 3)), (some (22, false)), false⟩,
   ⟨(some 24), (.load false 1 (.t 23)), (some (22, false)), false⟩,
   ⟨(some 25), (.len (.t 24)), (some (22, false)), false⟩,
   ⟨(some 26), (.bin .num .eql (.t 25) (.c (.int .i64 0))), (some (22, false)), false⟩,
   ⟨(some 27), (.pick (.t 22) (.c (.bool true)) (.t 26)), none, false⟩,
   ⟨(some 28), (.mv (.t 27)), none, false⟩,
   ⟨(some 29), (.faddr 0 (.t 2)), (some (28, false)), false⟩,
   ⟨(some 30), (.load false 1 (.t 29)), (some (28, false)), false⟩,
   ⟨(some 31), (.len (.t 30)), (some (28, false)), false⟩,
   ⟨(some 32), (.faddr 0 (.t 3)), (some (28, false)), false⟩,
   ⟨(some 33), (.load false 1 (.t 32)), (some (28, false)), false⟩,
   ⟨(some 34), (.len (.t 33)), (some (28, false)), false⟩,
   ⟨(some 35), (.bin .num .neq (.t 31) (.t 34)), (some (28, false)), false⟩,
   ⟨(some 36), (.pick (.t 28) (.c (.bool true)) (.t 35)), none, false⟩,
   ⟨(some 37), (.mv (.t 36)), none, false⟩,
   ⟨(some 38), (.load true 2 (.t 2)), (some (37, false)), false⟩,
   ⟨(some 39), (.call (.f 61) [(.t 38)]), (some (37, false)), false⟩,
   ⟨(some 40), (.field true 3 3 (.t 39)), (some (37, false)), false⟩,
   ⟨(some 41), (.load true 2 (.t 3)), (some (37, false)), false⟩,
   ⟨(some 42), (.call (.f 64) [(.t 41)]), (some (37, false)), true⟩,
   ⟨(some 43), (.call (.f 52) [(.t 40), (.t 42)]), (some (37, false)), true⟩,
   ⟨(some 44), (.bin .num .neq (.t 43) (.c (.int .i64 0))), (some (37, false)), false⟩,
   ⟨(some 45), (.pick (.t 37) (.c (.bool true)) (.t 44)), none, false⟩,
   ⟨(some 46), (.mv (.t 45)), none, false⟩,
   ⟨(some 47), (.load true 2 (.t 2)), (some (46, false)), false⟩,
   ⟨(some 48), (.call (.f 61) [(.t 47)]), (some (46, false)), false⟩,
   ⟨(some 49), (.field false 7 1 (.t 48)), (some (46, false)), false⟩,
   ⟨(some 50), (.faddr 0 (.t 3)), (some (46, false)), false⟩,
   ⟨(some 51), (.load false 1 (.t 50)), (some (46, false)), false⟩,
   ⟨(some 52), (.call (.f 53) [(.t 49), (.t 51)]), (some (46, false)), true⟩,
   ⟨(some 53), (.un .not (.t 52)), (some (46, false)), false⟩,
   ⟨(some 54), (.pick (.t 46) (.c (.bool true)) (.t 53)), none, false⟩,
   ⟨(some 17), (.mv (.t 54)), none, false⟩]
@[simp] def c_pipe_Join_r4 : List AOper :=
  [⟨(some 55), (.build [.nil, .nil] []), none, false⟩,
   ⟨none, (.store 2 (.t 4) (.t 55)), none, false⟩,
   ⟨(some 5), (.mv (.c (.int .i64 6))), none, false⟩]
@[simp] def c_pipe_Join_r5 : List AOper :=
  [⟨(some 57), (.faddr 1 (.t 2)), none, false⟩,
   ⟨(some 58), (.load false 1 (.t 57)), none, false⟩,
   ⟨(some 59), (.len (.t 58)), none, false⟩,
   ⟨(some 60), (.faddr 1 (.t 3)), none, false⟩,
   ⟨(some 61), (.load false 1 (.t 60)), none, false⟩,
   ⟨(some 62), (.len (.t 61)), none, false⟩,
   ⟨(some 63), (.bin .num .add (.t 59) (.t 62)), none, false⟩,
   ⟨(some 64), (.bin .num .gtr (.t 63) (.c (.int .i64 1000))), none, false⟩,
   ⟨(some 56), (.mv (.t 64)), none, false⟩]
@[simp] def c_pipe_Join_r6 : List AOper :=
  [⟨(some 65), (.build [.nil, .nil] []), none, false⟩,
   ⟨none, (.store 2 (.t 4) (.t 65)), none, false⟩,
   ⟨(some 5), (.mv (.c (.int .i64 5))), none, false⟩]
@[simp] def c_pipe_Join_r7 : List AOper :=
  [⟨(some 66), (.load true 2 (.t 2)), none, false⟩,
   ⟨(some 67), (.call (.f 45) [(.t 66)]), none, false⟩,
   ⟨(some 6), (.new 2 (.agg [.nil, .nil])), none, false⟩,
   ⟨none, (.store 2 (.t 6) (.t 67)), none, false⟩]
@[simp] def c_pipe_Join_r8 : List AOper :=
  [⟨(some 68), (.faddr 1 (.t 6)), none, false⟩,
   ⟨(some 69), (.load false 1 (.t 68)), none, false⟩,
   ⟨(some 70), (.load true 2 (.t 3)), none, false⟩,
   ⟨(some 71), (.call (.f 45) [(.t 70)]), none, false⟩,
   ⟨(some 72), (.field false 1 1 (.t 71)), none, false⟩,
   ⟨(some 73), (.append 8 128 (.t 69) (.t 72)), none, true⟩,
   ⟨(some 74), (.faddr 1 (.t 6)), none, false⟩,
   ⟨none, (.store 1 (.t 74) (.t 73)), none, true⟩]
@[simp] def c_pipe_Join_r9 : List AOper :=
  [⟨(some 75), (.load true 2 (.t 6)), none, false⟩,
   ⟨none, (.store 2 (.t 4) (.t 75)), none, false⟩,
   ⟨(some 5), (.mv (.c (.int .i64 0))), none, false⟩]
@[simp] def c_pipe_Join : AFn := ⟨[(.cell 4 true 2), (.tmp 5)],
  (.seq (.region false c_pipe_Join_r0) (.seq (.block 0 (.seq (.region false c_pipe_Join_r1) (.cond (.t 7) (.seq (.region false c_pipe_Join_r2) .ret) (.seq (.region true c_pipe_Join_r3) (.cond (.t 17) (.seq (.region false c_pipe_Join_r4) .ret) (.seq (.region false c_pipe_Join_r5) (.cond (.t 56) (.seq (.region false c_pipe_Join_r6) .ret) .skip))))))) (.seq (.region false c_pipe_Join_r7) (.seq (.region true c_pipe_Join_r8) (.seq (.region false c_pipe_Join_r9) .ret))))),
  false, false⟩

/- fpref37_First -/
@[simp] def c_fpref37_First_r0 : List AOper :=
  [⟨(some 1), (.box 2 (.t 0)), none, false⟩,
   ⟨(some 2), (.new 3 (.agg [(.bool false), .nil, (.int .i64 0)])), none, false⟩]
@[simp] def c_fpref37_First_r1 : List AOper :=
  [⟨(some 3), (.faddr 1 (.t 1)), none, false⟩,
   ⟨(some 4), (.load false 1 (.t 3)), none, false⟩,
   ⟨(some 5), (.iaddr 8 (.t 4) (.c (.int .i64 0))), none, false⟩,
   ⟨(some 6), (.faddr 0 (.t 5)), none, false⟩,
   ⟨(some 7), (.load true 3 (.t 6)), none, false⟩,
   ⟨none, (.store 3 (.t 2) (.t 7)), none, false⟩]
@[simp] def c_fpref37_First : AFn := ⟨[(.cell 2 true 3)],
  (.seq (.region false c_fpref37_First_r0) (.seq (.region false c_fpref37_First_r1) .ret)),
  false, false⟩

/- fpref37_Inside -/
@[simp] def c_fpref37_Inside_r0 : List AOper :=
  [⟨(some 4), (.mv (.c (.bool false))), none, false⟩]
@[simp] def c_fpref37_Inside_r1 : List AOper :=
  [⟨(some 6), (.mv (.t 0)), none, false⟩,
   ⟨(some 7), (.len (.t 6)), none, false⟩,
   ⟨(some 8), (.mv (.t 1)), none, false⟩,
   ⟨(some 9), (.len (.t 8)), none, false⟩,
   ⟨(some 10), (.bin .num .neq (.t 7) (.t 9)), none, false⟩]
@[simp] def c_fpref37_Inside_r2 : List AOper :=
  [⟨(some 4), (.mv (.c (.bool false))), none, false⟩]
@[simp] def c_fpref37_Inside_r3 : List AOper :=
  [⟨(some 5), (.mv (.c (.int .i64 0))), none, false⟩]
@[simp] def c_fpref37_Inside_r4 : List AOper :=
  [⟨(some 11), (.mv (.t 5)), none, false⟩,
   ⟨(some 12), (.mv (.t 0)), none, false⟩,
   ⟨(some 13), (.len (.t 12)), none, false⟩,
   ⟨(some 14), (.bin .num .lss (.t 11) (.t 13)), none, false⟩]
@[simp] def c_fpref37_Inside_r5 : List AOper :=
  [⟨(some 17), (.mv (.t 0)), none, false⟩,
   ⟨(some 18), (.mv (.t 5)), none, false⟩,
   ⟨(some 19), (.iaddr 7 (.t 17) (.t 18)), none, false⟩,
   ⟨(some 20), (.load true 7 (.t 19)), none, false⟩,
   ⟨(some 21), (.mv (.t 1)), none, false⟩,
   ⟨(some 22), (.mv (.t 5)), none, false⟩,
   ⟨(some 23), (.iaddr 7 (.t 21) (.t 22)), none, false⟩,
   ⟨(some 24), (.load true 7 (.t 23)), none, false⟩,
   ⟨(some 25), (.call (.f 65) [(.t 20), (.t 24)]), none, true⟩,
   ⟨(some 26), (.un .not (.t 25)), none, false⟩]
@[simp] def c_fpref37_Inside_r6 : List AOper :=
  [⟨(some 4), (.mv (.c (.bool false))), none, false⟩]
@[simp] def c_fpref37_Inside_r7 : List AOper :=
  [⟨(some 15), (.mv (.t 5)), none, false⟩,
   ⟨(some 16), (.bin .num .add (.t 15) (.c (.int .i64 1))), none, false⟩,
   ⟨(some 5), (.mv (.t 16)), none, false⟩]
def c_fpref37_Inside_l0 : AC := (.seq (.seq (.region false c_fpref37_Inside_r4) (.cond (.t 14) .skip (.exit 0))) (.seq (.block 1 (.seq (.region true c_fpref37_Inside_r5) (.cond (.t 26) (.seq (.region false c_fpref37_Inside_r6) .ret) .skip))) (.region false c_fpref37_Inside_r7)))
@[simp] def c_fpref37_Inside_r8 : List AOper :=
  [⟨(some 4), (.mv (.c (.bool true))), none, false⟩]
@[simp] def c_fpref37_Inside : AFn := ⟨[(.tmp 4)],
  (.seq (.region false c_fpref37_Inside_r0) (.seq (.seq (.region false c_fpref37_Inside_r1) (.cond (.t 10) (.seq (.region false c_fpref37_Inside_r2) .ret) .skip)) (.seq (.seq (.region false c_fpref37_Inside_r3) (.block 0 (.loop c_fpref37_Inside_l0))) (.seq (.region false c_fpref37_Inside_r8) .ret)))),
  false, false⟩

/- slices_Concat_Segment -/
@[simp] def c_slices_Concat_Segment_r0 : List AOper :=
  [⟨(some 2), (.mv (.c .nil)), none, false⟩]
@[simp] def c_slices_Concat_Segment_r1 : List AOper :=
  [⟨(some 3), (.mv (.c (.int .i64 0))), none, false⟩]
@[simp] def c_slices_Concat_Segment_r2 : List AOper :=
  [⟨(some 9), (.mv (.t 0)), none, false⟩,
   ⟨(some 10), (.len (.t 9)), none, false⟩,
   ⟨(some 11), (.mv (.c (.int .i64 0))), none, false⟩]
@[simp] def c_slices_Concat_Segment_r3 : List AOper :=
  [⟨(some 12), (.bin .num .lss (.t 11) (.t 10)), none, false⟩]
@[simp] def c_slices_Concat_Segment_r4 : List AOper :=
  [⟨(some 13), (.iaddr 1 (.t 9) (.t 11)), none, false⟩,
   ⟨(some 14), (.load false 1 (.t 13)), none, false⟩,
   ⟨(some 5), (.mv (.t 14)), none, false⟩]
@[simp] def c_slices_Concat_Segment_r5 : List AOper :=
  [⟨(some 15), (.mv (.t 3)), none, false⟩,
   ⟨(some 16), (.mv (.t 5)), none, false⟩,
   ⟨(some 17), (.len (.t 16)), none, false⟩,
   ⟨(some 18), (.bin .num .add (.t 15) (.t 17)), none, false⟩,
   ⟨(some 3), (.mv (.t 18)), none, false⟩]
@[simp] def c_slices_Concat_Segment_r6 : List AOper :=
  [⟨(some 19), (.mv (.t 3)), none, false⟩,
   ⟨(some 20), (.bin .num .lss (.t 19) (.c (.int .i64 0))), none, false⟩]
@[simp] def c_slices_Concat_Segment_r7 : List AOper :=
  [⟨(some 22), (.bin .num .add (.t 11) (.c (.int .i64 1))), none, false⟩,
   ⟨(some 11), (.mv (.t 22)), none, false⟩]
def c_slices_Concat_Segment_l0 : AC := (.seq (.region false c_slices_Concat_Segment_r3) (.seq (.cond (.t 12) .skip (.exit 0)) (.seq (.block 1 (.seq (.region false c_slices_Concat_Segment_r4) (.seq (.region false c_slices_Concat_Segment_r5) (.seq (.region false c_slices_Concat_Segment_r6) (.cond (.t 20) .stop .skip))))) (.region false c_slices_Concat_Segment_r7))))
@[simp] def c_slices_Concat_Segment_r8 : List AOper :=
  [⟨(some 23), (.mv (.t 3)), none, false⟩,
   ⟨(some 24), (.call (.f 66) [(.c .nil), (.t 23)]), none, false⟩,
   ⟨(some 6), (.mv (.t 24)), none, false⟩]
@[simp] def c_slices_Concat_Segment_r9 : List AOper :=
  [⟨(some 25), (.mv (.t 0)), none, false⟩,
   ⟨(some 26), (.len (.t 25)), none, false⟩,
   ⟨(some 27), (.mv (.c (.int .i64 0))), none, false⟩]
@[simp] def c_slices_Concat_Segment_r10 : List AOper :=
  [⟨(some 28), (.bin .num .lss (.t 27) (.t 26)), none, false⟩]
@[simp] def c_slices_Concat_Segment_r11 : List AOper :=
  [⟨(some 29), (.iaddr 1 (.t 25) (.t 27)), none, false⟩,
   ⟨(some 30), (.load false 1 (.t 29)), none, false⟩,
   ⟨(some 8), (.mv (.t 30)), none, false⟩]
@[simp] def c_slices_Concat_Segment_r12 : List AOper :=
  [⟨(some 31), (.mv (.t 6)), none, false⟩,
   ⟨(some 32), (.mv (.t 8)), none, false⟩,
   ⟨(some 33), (.append 8 128 (.t 31) (.t 32)), none, false⟩,
   ⟨(some 6), (.mv (.t 33)), none, false⟩]
@[simp] def c_slices_Concat_Segment_r13 : List AOper :=
  [⟨(some 34), (.bin .num .add (.t 27) (.c (.int .i64 1))), none, false⟩,
   ⟨(some 27), (.mv (.t 34)), none, false⟩]
def c_slices_Concat_Segment_l1 : AC := (.seq (.region false c_slices_Concat_Segment_r10) (.seq (.cond (.t 28) .skip (.exit 2)) (.seq (.block 3 (.seq (.region false c_slices_Concat_Segment_r11) (.region false c_slices_Concat_Segment_r12))) (.region false c_slices_Concat_Segment_r13))))
@[simp] def c_slices_Concat_Segment_r14 : List AOper :=
  [⟨(some 35), (.mv (.t 6)), none, false⟩,
   ⟨(some 2), (.mv (.t 35)), none, false⟩]
@[simp] def c_slices_Concat_Segment : AFn := ⟨[(.tmp 2)],
  (.seq (.region false c_slices_Concat_Segment_r0) (.seq (.region false c_slices_Concat_Segment_r1) (.seq (.seq (.region false c_slices_Concat_Segment_r2) (.block 0 (.loop c_slices_Concat_Segment_l0))) (.seq (.region false c_slices_Concat_Segment_r8) (.seq (.seq (.region false c_slices_Concat_Segment_r9) (.block 2 (.loop c_slices_Concat_Segment_l1))) (.seq (.region false c_slices_Concat_Segment_r14) .ret)))))),
  false, true⟩

/- fplaw37_wide -/
@[simp] def c_fplaw37_wide_r0 : List AOper :=
  [⟨(some 2), (.mv (.c (.bool false))), none, false⟩]
@[simp] def c_fplaw37_wide_r1 : List AOper :=
  [⟨(some 3), (.mv (.t 0)), none, false⟩,
   ⟨(some 4), (.len (.t 3)), none, false⟩,
   ⟨(some 5), (.bin .num .gtr (.t 4) (.c (.int .i64 10))), none, false⟩,
   ⟨(some 6), (.mv (.t 5)), none, false⟩,
   ⟨(some 7), (.mv (.t 0)), (some (6, false)), false⟩,
   ⟨(some 8), (.call (.f 67) [(.t 7), (.f 68)]), (some (6, false)), false⟩,
   ⟨(some 9), (.pick (.t 6) (.c (.bool true)) (.t 8)), none, false⟩,
   ⟨(some 2), (.mv (.t 9)), none, false⟩]
@[simp] def c_fplaw37_wide : AFn := ⟨[(.tmp 2)],
  (.seq (.region false c_fplaw37_wide_r0) (.seq (.region false c_fplaw37_wide_r1) .ret)),
  false, false⟩

/- pipe_First -/
@[simp] def c_pipe_First_r0 : List AOper :=
  [⟨(some 2), (.box 2 (.t 0)), none, false⟩,
   ⟨(some 4), (.mv (.c (.int .i64 0))), none, false⟩,
   ⟨(some 5), (.mv (.c (.bool false))), none, false⟩]
@[simp] def c_pipe_First_r1 : List AOper :=
  [⟨(some 10), (.load true 2 (.t 2)), none, false⟩,
   ⟨(some 11), (.call (.f 17) [(.t 10)]), none, false⟩,
   ⟨(some 12), (.un .not (.t 11)), none, false⟩]
@[simp] def c_pipe_First_r2 : List AOper :=
  [⟨(some 4), (.mv (.c (.int .i64 0))), none, false⟩,
   ⟨(some 5), (.mv (.c (.bool false))), none, false⟩]
@[simp] def c_pipe_First_r3 : List AOper :=
  [⟨(some 13), (.faddr 1 (.t 2)), none, false⟩,
   ⟨(some 14), (.load false 1 (.t 13)), none, false⟩,
   ⟨(some 15), (.len (.t 14)), none, false⟩,
   ⟨(some 16), (.mv (.c (.int .i64 0))), none, false⟩]
@[simp] def c_pipe_First_r4 : List AOper :=
  [⟨(some 17), (.bin .num .lss (.t 16) (.t 15)), none, false⟩]
@[simp] def c_pipe_First_r5 : List AOper :=
  [⟨(some 18), (.mv (.t 16)), none, false⟩,
   ⟨(some 19), (.iaddr 8 (.t 14) (.t 16)), none, false⟩,
   ⟨(some 20), (.load true 8 (.t 19)), none, false⟩,
   ⟨(some 7), (.new 8 (.agg [(.bool false), .nil, (.int .i64 0), (.bool false), .nil, (.int .i64 0), .nil, .nil])), none, false⟩,
   ⟨(some 6), (.mv (.t 18)), none, false⟩,
   ⟨none, (.store 8 (.t 7) (.t 20)), none, false⟩]
@[simp] def c_pipe_First_r6 : List AOper :=
  [⟨(some 22), (.faddr 6 (.t 7)), none, false⟩,
   ⟨(some 23), (.load false 1 (.t 22)), none, false⟩,
   ⟨(some 24), (.mv (.t 1)), none, false⟩,
   ⟨(some 25), (.call (.f 69) [(.t 23), (.t 24)]), none, false⟩,
   ⟨(some 21), (.mv (.t 25)), none, false⟩,
   ⟨(some 26), (.extract 0 (.t 21)), none, false⟩,
   ⟨(some 27), (.extract 1 (.t 21)), none, false⟩,
   ⟨(some 8), (.mv (.t 26)), none, false⟩,
   ⟨(some 9), (.mv (.t 27)), none, false⟩]
@[simp] def c_pipe_First_r7 : List AOper :=
  [⟨(some 28), (.mv (.t 9)), none, false⟩]
@[simp] def c_pipe_First_r8 : List AOper :=
  [⟨(some 29), (.mv (.t 6)), none, false⟩,
   ⟨(some 4), (.mv (.t 29)), none, false⟩,
   ⟨(some 5), (.mv (.c (.bool true))), none, false⟩]
@[simp] def c_pipe_First_r9 : List AOper :=
  [⟨(some 30), (.bin .num .add (.t 16) (.c (.int .i64 1))), none, false⟩,
   ⟨(some 16), (.mv (.t 30)), none, false⟩]
def c_pipe_First_l0 : AC := (.seq (.region false c_pipe_First_r4) (.seq (.cond (.t 17) .skip (.exit 0)) (.seq (.block 1 (.seq (.region false c_pipe_First_r5) (.seq (.region false c_pipe_First_r6) (.seq (.region false c_pipe_First_r7) (.cond (.t 28) (.seq (.region false c_pipe_First_r8) .ret) .skip))))) (.region false c_pipe_First_r9))))
@[simp] def c_pipe_First_r10 : List AOper :=
  [⟨(some 4), (.mv (.c (.int .i64 0))), none, false⟩,
   ⟨(some 5), (.mv (.c (.bool false))), none, false⟩]
@[simp] def c_pipe_First : AFn := ⟨[(.tmp 4), (.tmp 5)],
  (.seq (.region false c_pipe_First_r0) (.seq (.seq (.region false c_pipe_First_r1) (.cond (.t 12) (.seq (.region false c_pipe_First_r2) .ret) .skip)) (.seq (.seq (.region false c_pipe_First_r3) (.block 0 (.loop c_pipe_First_l0))) (.seq (.region false c_pipe_First_r10) .ret)))),
  false, false⟩

/- fpref37_Box -/
@[simp] def c_fpref37_Box_r0 : List AOper :=
  [⟨(some 2), (.mv (.c (.bool false))), none, false⟩]
@[simp] def c_fpref37_Box_r1 : List AOper :=
  [⟨(some 3), (.mv (.c (.int .i64 0))), none, false⟩]
@[simp] def c_fpref37_Box_r2 : List AOper :=
  [⟨(some 4), (.mv (.t 3)), none, false⟩,
   ⟨(some 5), (.mv (.t 0)), none, false⟩,
   ⟨(some 6), (.len (.t 5)), none, false⟩,
   ⟨(some 7), (.bin .num .lss (.t 4) (.t 6)), none, false⟩]
@[simp] def c_fpref37_Box_r3 : List AOper :=
  [⟨(some 10), (.mv (.t 0)), none, false⟩,
   ⟨(some 11), (.mv (.t 3)), none, false⟩,
   ⟨(some 12), (.iaddr 7 (.t 10) (.t 11)), none, false⟩,
   ⟨(some 13), (.load true 7 (.t 12)), none, false⟩,
   ⟨(some 14), (.call (.f 70) [(.t 13)]), none, false⟩,
   ⟨(some 15), (.un .not (.t 14)), none, false⟩,
   ⟨(some 16), (.mv (.t 15)), none, false⟩,
   ⟨(some 17), (.mv (.t 0)), (some (16, false)), false⟩,
   ⟨(some 18), (.mv (.t 3)), (some (16, false)), false⟩,
   ⟨(some 19), (.iaddr 7 (.t 17) (.t 18)), (some (16, false)), false⟩,
   ⟨(some 20), (.faddr 6 (.t 19)), (some (16, false)), false⟩,
   ⟨(some 21), (.load false 1 (.t 20)), (some (16, false)), false⟩,
   ⟨(some 22), (.pick (.t 16) (.c (.bool true)) (.t 21)), none, false⟩]
@[simp] def c_fpref37_Box_r4 : List AOper :=
  [⟨(some 2), (.mv (.c (.bool false))), none, false⟩]
@[simp] def c_fpref37_Box_r5 : List AOper :=
  [⟨(some 8), (.mv (.t 3)), none, false⟩,
   ⟨(some 9), (.bin .num .add (.t 8) (.c (.int .i64 1))), none, false⟩,
   ⟨(some 3), (.mv (.t 9)), none, false⟩]
def c_fpref37_Box_l0 : AC := (.seq (.seq (.region false c_fpref37_Box_r2) (.cond (.t 7) .skip (.exit 0))) (.seq (.block 1 (.seq (.region false c_fpref37_Box_r3) (.cond (.t 22) (.seq (.region false c_fpref37_Box_r4) .ret) .skip))) (.region false c_fpref37_Box_r5)))
@[simp] def c_fpref37_Box_r6 : List AOper :=
  [⟨(some 23), (.mv (.t 0)), none, false⟩,
   ⟨(some 24), (.len (.t 23)), none, false⟩,
   ⟨(some 25), (.bin .num .geq (.t 24) (.c (.int .i64 1))), none, false⟩,
   ⟨(some 26), (.mv (.t 25)), none, false⟩,
   ⟨(some 27), (.mv (.t 0)), (some (26, true)), false⟩,
   ⟨(some 28), (.len (.t 27)), (some (26, true)), false⟩,
   ⟨(some 29), (.bin .num .leq (.t 28) (.c (.int .i64 8))), (some (26, true)), false⟩,
   ⟨(some 30), (.pick (.t 26) (.t 29) (.c (.bool false))), none, false⟩,
   ⟨(some 2), (.mv (.t 30)), none, false⟩]
@[simp] def c_fpref37_Box : AFn := ⟨[(.tmp 2)],
  (.seq (.region false c_fpref37_Box_r0) (.seq (.seq (.region false c_fpref37_Box_r1) (.block 0 (.loop c_fpref37_Box_l0))) (.seq (.region false c_fpref37_Box_r6) .ret))),
  false, false⟩

/- slices_IndexFunc_Segment -/
@[simp] def c_slices_IndexFunc_Segment_r0 : List AOper :=
  [⟨(some 4), (.mv (.c (.int .i64 0))), none, false⟩]
@[simp] def c_slices_IndexFunc_Segment_r1 : List AOper :=
  [⟨(some 6), (.mv (.t 0)), none, false⟩,
   ⟨(some 7), (.len (.t 6)), none, false⟩,
   ⟨(some 8), (.mv (.c (.int .i64 0))), none, false⟩]
@[simp] def c_slices_IndexFunc_Segment_r2 : List AOper :=
  [⟨(some 9), (.bin .num .lss (.t 8) (.t 7)), none, false⟩]
@[simp] def c_slices_IndexFunc_Segment_r3 : List AOper :=
  [⟨(some 10), (.mv (.t 8)), none, false⟩,
   ⟨(some 5), (.mv (.t 10)), none, false⟩]
@[simp] def c_slices_IndexFunc_Segment_r4 : List AOper :=
  [⟨(some 11), (.mv (.t 1)), none, false⟩,
   ⟨(some 12), (.mv (.t 0)), none, false⟩,
   ⟨(some 13), (.mv (.t 5)), none, false⟩,
   ⟨(some 14), (.iaddr 8 (.t 12) (.t 13)), none, false⟩,
   ⟨(some 15), (.load true 8 (.t 14)), none, false⟩,
   ⟨(some 16), (.call (.t 11) [(.t 15)]), none, false⟩]
@[simp] def c_slices_IndexFunc_Segment_r5 : List AOper :=
  [⟨(some 17), (.mv (.t 5)), none, false⟩,
   ⟨(some 4), (.mv (.t 17)), none, false⟩]
@[simp] def c_slices_IndexFunc_Segment_r6 : List AOper :=
  [⟨(some 18), (.bin .num .add (.t 8) (.c (.int .i64 1))), none, false⟩,
   ⟨(some 8), (.mv (.t 18)), none, false⟩]
def c_slices_IndexFunc_Segment_l0 : AC := (.seq (.region false c_slices_IndexFunc_Segment_r2) (.seq (.cond (.t 9) .skip (.exit 0)) (.seq (.block 1 (.seq (.region false c_slices_IndexFunc_Segment_r3) (.seq (.region false c_slices_IndexFunc_Segment_r4) (.cond (.t 16) (.seq (.region false c_slices_IndexFunc_Segment_r5) .ret) .skip)))) (.region false c_slices_IndexFunc_Segment_r6))))
@[simp] def c_slices_IndexFunc_Segment_r7 : List AOper :=
  [⟨(some 4), (.mv (.c (.int .i64 (-1)))), none, false⟩]
@[simp] def c_slices_IndexFunc_Segment : AFn := ⟨[(.tmp 4)],
  (.seq (.region false c_slices_IndexFunc_Segment_r0) (.seq (.seq (.region false c_slices_IndexFunc_Segment_r1) (.block 0 (.loop c_slices_IndexFunc_Segment_l0))) (.seq (.region false c_slices_IndexFunc_Segment_r7) .ret))),
  false, false⟩

/- fplaw37_PipeFirst_1 -/
@[simp] def c_fplaw37_PipeFirst_1_r0 : List AOper :=
  [⟨(some 2), (.box 8 (.t 0)), none, false⟩,
   ⟨(some 3), (.mv (.c (.bool false))), none, false⟩]
@[simp] def c_fplaw37_PipeFirst_1_r1 : List AOper :=
  [⟨(some 7), (.faddr 6 (.t 2)), none, false⟩,
   ⟨(some 8), (.load false 1 (.t 7)), none, false⟩,
   ⟨(some 9), (.load false 1 (.t 1)), none, false⟩,
   ⟨(some 10), (.call (.f 34) [(.t 8), (.t 9)]), none, false⟩,
   ⟨(some 6), (.mv (.t 10)), none, false⟩,
   ⟨(some 11), (.extract 0 (.t 6)), none, false⟩,
   ⟨(some 12), (.extract 1 (.t 6)), none, false⟩,
   ⟨(some 4), (.mv (.t 11)), none, false⟩,
   ⟨(some 5), (.mv (.t 12)), none, false⟩]
@[simp] def c_fplaw37_PipeFirst_1_r2 : List AOper :=
  [⟨(some 13), (.mv (.t 5)), none, false⟩,
   ⟨(some 3), (.mv (.t 13)), none, false⟩]
@[simp] def c_fplaw37_PipeFirst_1 : AFn := ⟨[(.tmp 3)],
  (.seq (.region false c_fplaw37_PipeFirst_1_r0) (.seq (.region false c_fplaw37_PipeFirst_1_r1) (.seq (.region false c_fplaw37_PipeFirst_1_r2) .ret))),
  false, false⟩

/- fpref37_Common -/
@[simp] def c_fpref37_Common_r0 : List AOper :=
  [⟨(some 4), (.mv (.c .nil)), none, false⟩,
   ⟨(some 5), (.mv (.c (.bool false))), none, false⟩]
@[simp] def c_fpref37_Common_r1 : List AOper :=
  [⟨(some 6), (.mv (.c .nil)), none, false⟩]
@[simp] def c_fpref37_Common_r2 : List AOper :=
  [⟨(some 7), (.mv (.c (.int .i64 0))), none, false⟩]
@[simp] def c_fpref37_Common_r3 : List AOper :=
  [⟨(some 10), (.mv (.t 7)), none, false⟩,
   ⟨(some 11), (.mv (.t 0)), none, false⟩,
   ⟨(some 12), (.len (.t 11)), none, false⟩,
   ⟨(some 13), (.bin .num .lss (.t 10) (.t 12)), none, false⟩]
@[simp] def c_fpref37_Common_r4 : List AOper :=
  [⟨(some 17), (.mv (.t 0)), none, false⟩,
   ⟨(some 18), (.mv (.t 7)), none, false⟩,
   ⟨(some 19), (.iaddr 7 (.t 17) (.t 18)), none, false⟩,
   ⟨(some 20), (.load true 7 (.t 19)), none, false⟩,
   ⟨(some 21), (.mv (.t 1)), none, false⟩,
   ⟨(some 22), (.mv (.t 7)), none, false⟩,
   ⟨(some 23), (.iaddr 7 (.t 21) (.t 22)), none, false⟩,
   ⟨(some 24), (.load true 7 (.t 23)), none, false⟩,
   ⟨(some 25), (.call (.f 71) [(.t 20), (.t 24)]), none, false⟩,
   ⟨(some 16), (.mv (.t 25)), none, false⟩,
   ⟨(some 26), (.extract 0 (.t 16)), none, false⟩,
   ⟨(some 27), (.extract 1 (.t 16)), none, false⟩,
   ⟨(some 8), (.new 7 (.agg [(.bool false), .nil, (.int .i64 0), (.bool false), .nil, (.int .i64 0), (.bool false)])), none, false⟩,
   ⟨none, (.store 7 (.t 8) (.t 26)), none, true⟩,
   ⟨(some 9), (.mv (.t 27)), none, false⟩]
@[simp] def c_fpref37_Common_r5 : List AOper :=
  [⟨(some 28), (.mv (.t 9)), none, false⟩,
   ⟨(some 29), (.un .not (.t 28)), none, false⟩]
@[simp] def c_fpref37_Common_r6 : List AOper :=
  [⟨(some 4), (.mv (.c .nil)), none, false⟩,
   ⟨(some 5), (.mv (.c (.bool false))), none, false⟩]
@[simp] def c_fpref37_Common_r7 : List AOper :=
  [⟨(some 30), (.mv (.t 6)), none, false⟩,
   ⟨(some 31), (.load true 7 (.t 8)), none, false⟩,
   ⟨(some 32), (.bslice 7 1 (.agg [(.bool false), .nil, (.int .i64 0), (.bool false), .nil, (.int .i64 0), (.bool false)]) [(0, (.t 31))]), none, false⟩,
   ⟨(some 33), (.append 7 88 (.t 30) (.t 32)), none, false⟩,
   ⟨(some 6), (.mv (.t 33)), none, false⟩]
@[simp] def c_fpref37_Common_r8 : List AOper :=
  [⟨(some 14), (.mv (.t 7)), none, false⟩,
   ⟨(some 15), (.bin .num .add (.t 14) (.c (.int .i64 1))), none, false⟩,
   ⟨(some 7), (.mv (.t 15)), none, false⟩]
def c_fpref37_Common_l0 : AC := (.seq (.seq (.region false c_fpref37_Common_r3) (.cond (.t 13) .skip (.exit 0))) (.seq (.block 1 (.seq (.region true c_fpref37_Common_r4) (.seq (.seq (.region false c_fpref37_Common_r5) (.cond (.t 29) (.seq (.region false c_fpref37_Common_r6) .ret) .skip)) (.region false c_fpref37_Common_r7)))) (.region false c_fpref37_Common_r8)))
@[simp] def c_fpref37_Common_r9 : List AOper :=
  [⟨(some 34), (.mv (.t 6)), none, false⟩,
   ⟨(some 4), (.mv (.t 34)), none, false⟩,
   ⟨(some 5), (.mv (.c (.bool true))), none, false⟩]
@[simp] def c_fpref37_Common : AFn := ⟨[(.tmp 4), (.tmp 5)],
  (.seq (.region false c_fpref37_Common_r0) (.seq (.region false c_fpref37_Common_r1) (.seq (.seq (.region false c_fpref37_Common_r2) (.block 0 (.loop c_fpref37_Common_l0))) (.seq (.region false c_fpref37_Common_r9) .ret)))),
  false, false⟩

/- pipe_Over -/
@[simp] def c_pipe_Over_r0 : List AOper :=
  [⟨(some 3), (.box 2 (.t 0)), none, false⟩,
   ⟨(some 4), (.box 3 (.t 1)), none, false⟩,
   ⟨(some 5), (.box 3 (.t 2)), none, false⟩,
   ⟨(some 6), (.mv (.c .nil)), none, false⟩,
   ⟨(some 7), (.mv (.c (.int .i64 0))), none, false⟩]
@[simp] def c_pipe_Over_r1 : List AOper :=
  [⟨(some 12), (.load true 2 (.t 3)), none, false⟩,
   ⟨(some 13), (.call (.f 17) [(.t 12)]), none, false⟩,
   ⟨(some 14), (.un .not (.t 13)), none, false⟩,
   ⟨(some 15), (.mv (.t 14)), none, false⟩,
   ⟨(some 16), (.load true 3 (.t 4)), (some (15, false)), false⟩,
   ⟨(some 17), (.call (.f 51) [(.t 16)]), (some (15, false)), false⟩,
   ⟨(some 18), (.un .not (.t 17)), (some (15, false)), false⟩,
   ⟨(some 19), (.pick (.t 15) (.c (.bool true)) (.t 18)), none, false⟩,
   ⟨(some 20), (.mv (.t 19)), none, false⟩,
   ⟨(some 21), (.load true 3 (.t 5)), (some (20, false)), false⟩,
   ⟨(some 22), (.call (.f 51) [(.t 21)]), (some (20, false)), false⟩,
   ⟨(some 23), (.un .not (.t 22)), (some (20, false)), false⟩,
   ⟨(some 24), (.pick (.t 20) (.c (.bool true)) (.t 23)), none, false⟩,
   ⟨(some 11), (.mv (.t 24)), none, false⟩]
@[simp] def c_pipe_Over_r2 : List AOper :=
  [⟨(some 6), (.mv (.c .nil)), none, false⟩,
   ⟨(some 7), (.mv (.c (.int .i64 1))), none, false⟩]
@[simp] def c_pipe_Over_r3 : List AOper :=
  [⟨(some 26), (.load true 2 (.t 3)), none, false⟩,
   ⟨(some 27), (.load true 3 (.t 4)), none, false⟩,
   ⟨(some 28), (.call (.f 58) [(.t 26), (.t 27)]), none, false⟩,
   ⟨(some 29), (.un .not (.t 28)), none, false⟩,
   ⟨(some 30), (.mv (.t 29)), none, false⟩,
   ⟨(some 31), (.load true 2 (.t 3)), (some (30, false)), false⟩,
   ⟨(some 32), (.load true 3 (.t 5)), (some (30, false)), false⟩,
   ⟨(some 33), (.call (.f 58) [(.t 31), (.t 32)]), (some (30, false)), false⟩,
   ⟨(some 34), (.un .not (.t 33)), (some (30, false)), false⟩,
   ⟨(some 35), (.pick (.t 30) (.c (.bool true)) (.t 34)), none, false⟩,
   ⟨(some 36), (.mv (.t 35)), none, false⟩,
   ⟨(some 37), (.load true 3 (.t 5)), (some (36, false)), false⟩,
   ⟨(some 38), (.load true 3 (.t 4)), (some (36, false)), false⟩,
   ⟨(some 39), (.call (.f 46) [(.t 37), (.t 38)]), (some (36, false)), false⟩,
   ⟨(some 40), (.pick (.t 36) (.c (.bool true)) (.t 39)), none, false⟩,
   ⟨(some 25), (.mv (.t 40)), none, false⟩]
@[simp] def c_pipe_Over_r4 : List AOper :=
  [⟨(some 6), (.mv (.c .nil)), none, false⟩,
   ⟨(some 7), (.mv (.c (.int .i64 2))), none, false⟩]
@[simp] def c_pipe_Over_r5 : List AOper :=
  [⟨(some 42), (.load true 3 (.t 4)), none, false⟩,
   ⟨(some 43), (.load true 3 (.t 5)), none, false⟩,
   ⟨(some 44), (.call (.f 52) [(.t 42), (.t 43)]), none, false⟩,
   ⟨(some 45), (.bin .num .eql (.t 44) (.c (.int .i64 0))), none, false⟩,
   ⟨(some 41), (.mv (.t 45)), none, false⟩]
@[simp] def c_pipe_Over_r6 : List AOper :=
  [⟨(some 46), (.load true 2 (.t 3)), none, false⟩,
   ⟨(some 47), (.load true 3 (.t 4)), none, false⟩,
   ⟨(some 48), (.call (.f 59) [(.t 46), (.t 47)]), none, false⟩,
   ⟨(some 6), (.mv (.t 48)), none, false⟩,
   ⟨(some 7), (.mv (.c (.int .i64 0))), none, false⟩]
@[simp] def c_pipe_Over_r7 : List AOper :=
  [⟨(some 8), (.mv (.c .nil)), none, false⟩]
@[simp] def c_pipe_Over_r8 : List AOper :=
  [⟨(some 49), (.faddr 1 (.t 3)), none, false⟩,
   ⟨(some 50), (.load false 1 (.t 49)), none, false⟩,
   ⟨(some 51), (.len (.t 50)), none, false⟩,
   ⟨(some 52), (.mv (.c (.int .i64 0))), none, false⟩]
@[simp] def c_pipe_Over_r9 : List AOper :=
  [⟨(some 53), (.bin .num .lss (.t 52) (.t 51)), none, false⟩]
@[simp] def c_pipe_Over_r10 : List AOper :=
  [⟨(some 54), (.iaddr 8 (.t 50) (.t 52)), none, false⟩,
   ⟨(some 55), (.load true 8 (.t 54)), none, false⟩,
   ⟨(some 10), (.new 8 (.agg [(.bool false), .nil, (.int .i64 0), (.bool false), .nil, (.int .i64 0), .nil, .nil])), none, false⟩,
   ⟨none, (.store 8 (.t 10) (.t 55)), none, false⟩]
@[simp] def c_pipe_Over_r11 : List AOper :=
  [⟨(some 56), (.faddr 0 (.t 10)), none, false⟩,
   ⟨(some 57), (.load true 3 (.t 56)), none, false⟩,
   ⟨(some 58), (.load true 3 (.t 5)), none, false⟩,
   ⟨(some 59), (.call (.f 46) [(.t 57), (.t 58)]), none, false⟩,
   ⟨(some 60), (.un .not (.t 59)), none, false⟩,
   ⟨(some 61), (.mv (.t 60)), none, false⟩,
   ⟨(some 62), (.load true 3 (.t 4)), (some (61, false)), false⟩,
   ⟨(some 63), (.faddr 3 (.t 10)), (some (61, false)), false⟩,
   ⟨(some 64), (.load true 3 (.t 63)), (some (61, false)), false⟩,
   ⟨(some 65), (.call (.f 46) [(.t 62), (.t 64)]), (some (61, false)), false⟩,
   ⟨(some 66), (.un .not (.t 65)), (some (61, false)), false⟩,
   ⟨(some 67), (.pick (.t 61) (.c (.bool true)) (.t 66)), none, false⟩]
@[simp] def c_pipe_Over_r12 : List AOper :=
  [⟨(some 68), (.mv (.t 8)), none, false⟩,
   ⟨(some 69), (.bin .slice .eql (.t 68) (.c .nil)), none, false⟩]
@[simp] def c_pipe_Over_r13 : List AOper :=
  [⟨(some 70), (.faddr 6 (.t 10)), none, false⟩,
   ⟨(some 71), (.load false 1 (.t 70)), none, false⟩,
   ⟨(some 72), (.call (.f 47) [(.t 71)]), none, false⟩,
   ⟨(some 8), (.mv (.t 72)), none, false⟩]
@[simp] def c_pipe_Over_r14 : List AOper :=
  [⟨(some 73), (.mv (.t 8)), none, false⟩,
   ⟨(some 74), (.faddr 6 (.t 10)), none, false⟩,
   ⟨(some 75), (.load false 1 (.t 74)), none, false⟩,
   ⟨(some 76), (.call (.f 72) [(.t 73), (.t 75)]), none, false⟩,
   ⟨(some 8), (.mv (.t 76)), none, false⟩]
@[simp] def c_pipe_Over_r15 : List AOper :=
  [⟨(some 77), (.bin .num .add (.t 52) (.c (.int .i64 1))), none, false⟩,
   ⟨(some 52), (.mv (.t 77)), none, false⟩]
def c_pipe_Over_l0 : AC := (.seq (.region false c_pipe_Over_r9) (.seq (.cond (.t 53) .skip (.exit 1)) (.seq (.block 2 (.seq (.region false c_pipe_Over_r10) (.seq (.seq (.region false c_pipe_Over_r11) (.cond (.t 67) (.exit 2) .skip)) (.seq (.region false c_pipe_Over_r12) (.cond (.t 69) (.region false c_pipe_Over_r13) (.region false c_pipe_Over_r14)))))) (.region false c_pipe_Over_r15))))
@[simp] def c_pipe_Over_r16 : List AOper :=
  [⟨(some 78), (.mv (.t 8)), none, false⟩,
   ⟨(some 6), (.mv (.t 78)), none, false⟩,
   ⟨(some 7), (.mv (.c (.int .i64 0))), none, false⟩]
@[simp] def c_pipe_Over : AFn := ⟨[(.tmp 6), (.tmp 7)],
  (.seq (.region false c_pipe_Over_r0) (.seq (.block 0 (.seq (.region false c_pipe_Over_r1) (.cond (.t 11) (.seq (.region false c_pipe_Over_r2) .ret) (.seq (.region false c_pipe_Over_r3) (.cond (.t 25) (.seq (.region false c_pipe_Over_r4) .ret) (.seq (.region false c_pipe_Over_r5) (.cond (.t 41) (.seq (.region false c_pipe_Over_r6) .ret) .skip))))))) (.seq (.region false c_pipe_Over_r7) (.seq (.seq (.region false c_pipe_Over_r8) (.block 1 (.loop c_pipe_Over_l0))) (.seq (.region false c_pipe_Over_r16) .ret))))),
  false, false⟩

/- fpref37_At -/
@[simp] def c_fpref37_At_r0 : List AOper :=
  [⟨(some 2), (.box 2 (.t 0)), none, false⟩,
   ⟨(some 3), (.box 3 (.t 1)), none, false⟩,
   ⟨(some 4), (.mv (.c .nil)), none, false⟩]
@[simp] def c_fpref37_At_r1 : List AOper :=
  [⟨(some 6), (.load true 3 (.t 3)), none, false⟩,
   ⟨(some 7), (.load true 2 (.t 2)), none, false⟩,
   ⟨(some 8), (.call (.f 26) [(.t 7)]), none, false⟩,
   ⟨(some 9), (.call (.f 23) [(.t 6), (.t 8)]), none, true⟩]
@[simp] def c_fpref37_At_r2 : List AOper :=
  [⟨(some 10), (.faddr 0 (.t 2)), none, false⟩,
   ⟨(some 11), (.load false 1 (.t 10)), none, false⟩,
   ⟨(some 4), (.mv (.t 11)), none, false⟩]
@[simp] def c_fpref37_At_r3 : List AOper :=
  [⟨(some 5), (.mv (.c (.int .i64 0))), none, false⟩]
@[simp] def c_fpref37_At_r4 : List AOper :=
  [⟨(some 12), (.faddr 1 (.t 2)), none, false⟩,
   ⟨(some 13), (.load false 1 (.t 12)), none, false⟩,
   ⟨(some 14), (.mv (.t 5)), none, false⟩,
   ⟨(some 15), (.iaddr 8 (.t 13) (.t 14)), none, false⟩,
   ⟨(some 16), (.faddr 3 (.t 15)), none, false⟩,
   ⟨(some 17), (.load true 3 (.t 16)), none, false⟩,
   ⟨(some 18), (.load true 3 (.t 3)), none, false⟩,
   ⟨(some 19), (.call (.f 18) [(.t 17), (.t 18)]), none, true⟩,
   ⟨(some 20), (.bin .num .lss (.t 19) (.c (.int .i64 0))), none, false⟩]
@[simp] def c_fpref37_At_r5 : List AOper :=
  [⟨(some 21), (.mv (.t 5)), none, false⟩,
   ⟨(some 22), (.bin .num .add (.t 21) (.c (.int .i64 1))), none, false⟩,
   ⟨(some 5), (.mv (.t 22)), none, false⟩]
def c_fpref37_At_l0 : AC := (.seq (.seq (.region true c_fpref37_At_r4) (.cond (.t 20) .skip (.exit 0))) (.block 1 (.region false c_fpref37_At_r5)))
@[simp] def c_fpref37_At_r6 : List AOper :=
  [⟨(some 23), (.faddr 1 (.t 2)), none, false⟩,
   ⟨(some 24), (.load false 1 (.t 23)), none, false⟩,
   ⟨(some 25), (.mv (.t 5)), none, false⟩,
   ⟨(some 26), (.iaddr 8 (.t 24) (.t 25)), none, false⟩,
   ⟨(some 27), (.faddr 3 (.t 26)), none, false⟩,
   ⟨(some 28), (.load true 3 (.t 27)), none, false⟩,
   ⟨(some 29), (.load true 3 (.t 3)), none, false⟩,
   ⟨(some 30), (.call (.f 23) [(.t 28), (.t 29)]), none, true⟩]
@[simp] def c_fpref37_At_r7 : List AOper :=
  [⟨(some 31), (.faddr 1 (.t 2)), none, false⟩,
   ⟨(some 32), (.load false 1 (.t 31)), none, false⟩,
   ⟨(some 33), (.mv (.t 5)), none, false⟩,
   ⟨(some 34), (.iaddr 8 (.t 32) (.t 33)), none, false⟩,
   ⟨(some 35), (.faddr 7 (.t 34)), none, false⟩,
   ⟨(some 36), (.load false 1 (.t 35)), none, false⟩,
   ⟨(some 4), (.mv (.t 36)), none, false⟩]
@[simp] def c_fpref37_At_r8 : List AOper :=
  [⟨(some 37), (.faddr 1 (.t 2)), none, false⟩,
   ⟨(some 38), (.load false 1 (.t 37)), none, false⟩,
   ⟨(some 39), (.mv (.t 5)), none, false⟩,
   ⟨(some 40), (.iaddr 8 (.t 38) (.t 39)), none, false⟩,
   ⟨(some 41), (.faddr 6 (.t 40)), none, false⟩,
   ⟨(some 42), (.load false 1 (.t 41)), none, false⟩,
   ⟨(some 4), (.mv (.t 42)), none, false⟩]
@[simp] def c_fpref37_At : AFn := ⟨[(.tmp 4)],
  (.seq (.region false c_fpref37_At_r0) (.seq (.seq (.region true c_fpref37_At_r1) (.cond (.t 9) (.seq (.region false c_fpref37_At_r2) .ret) .skip)) (.seq (.region false c_fpref37_At_r3) (.seq (.block 0 (.loop c_fpref37_At_l0)) (.seq (.seq (.region true c_fpref37_At_r6) (.cond (.t 30) (.seq (.region false c_fpref37_At_r7) .ret) .skip)) (.seq (.region false c_fpref37_At_r8) .ret)))))),
  false, false⟩

/- fpref37_Over -/
@[simp] def c_fpref37_Over_r0 : List AOper :=
  [⟨(some 3), (.box 2 (.t 0)), none, false⟩,
   ⟨(some 4), (.box 3 (.t 1)), none, false⟩,
   ⟨(some 5), (.box 3 (.t 2)), none, false⟩,
   ⟨(some 6), (.mv (.c .nil)), none, false⟩]
@[simp] def c_fpref37_Over_r1 : List AOper :=
  [⟨(some 10), (.load true 3 (.t 4)), none, false⟩,
   ⟨(some 11), (.load true 3 (.t 5)), none, false⟩,
   ⟨(some 12), (.call (.f 23) [(.t 10), (.t 11)]), none, false⟩]
@[simp] def c_fpref37_Over_r2 : List AOper :=
  [⟨(some 13), (.load true 2 (.t 3)), none, false⟩,
   ⟨(some 14), (.load true 3 (.t 4)), none, false⟩,
   ⟨(some 15), (.call (.f 36) [(.t 13), (.t 14)]), none, false⟩,
   ⟨(some 6), (.mv (.t 15)), none, false⟩]
@[simp] def c_fpref37_Over_r3 : List AOper :=
  [⟨(some 7), (.mv (.c .nil)), none, false⟩]
@[simp] def c_fpref37_Over_r4 : List AOper :=
  [⟨(some 8), (.mv (.c (.int .i64 0))), none, false⟩]
@[simp] def c_fpref37_Over_r5 : List AOper :=
  [⟨(some 16), (.mv (.t 8)), none, false⟩,
   ⟨(some 17), (.faddr 1 (.t 3)), none, false⟩,
   ⟨(some 18), (.load false 1 (.t 17)), none, false⟩,
   ⟨(some 19), (.len (.t 18)), none, false⟩,
   ⟨(some 20), (.bin .num .lss (.t 16) (.t 19)), none, false⟩]
@[simp] def c_fpref37_Over_r6 : List AOper :=
  [⟨(some 23), (.faddr 1 (.t 3)), none, false⟩,
   ⟨(some 24), (.load false 1 (.t 23)), none, false⟩,
   ⟨(some 25), (.mv (.t 8)), none, false⟩,
   ⟨(some 26), (.iaddr 8 (.t 24) (.t 25)), none, false⟩,
   ⟨(some 27), (.load true 8 (.t 26)), none, false⟩,
   ⟨(some 9), (.new 8 (.agg [(.bool false), .nil, (.int .i64 0), (.bool false), .nil, (.int .i64 0), .nil, .nil])), none, false⟩,
   ⟨none, (.store 8 (.t 9) (.t 27)), none, false⟩]
@[simp] def c_fpref37_Over_r7 : List AOper :=
  [⟨(some 28), (.faddr 0 (.t 9)), none, false⟩,
   ⟨(some 29), (.load true 3 (.t 28)), none, false⟩,
   ⟨(some 30), (.load true 3 (.t 5)), none, false⟩,
   ⟨(some 31), (.call (.f 18) [(.t 29), (.t 30)]), none, false⟩,
   ⟨(some 32), (.bin .num .lss (.t 31) (.c (.int .i64 0))), none, false⟩,
   ⟨(some 33), (.mv (.t 32)), none, false⟩,
   ⟨(some 34), (.faddr 3 (.t 9)), (some (33, true)), false⟩,
   ⟨(some 35), (.load true 3 (.t 34)), (some (33, true)), false⟩,
   ⟨(some 36), (.load true 3 (.t 4)), (some (33, true)), false⟩,
   ⟨(some 37), (.call (.f 18) [(.t 35), (.t 36)]), (some (33, true)), false⟩,
   ⟨(some 38), (.bin .num .gtr (.t 37) (.c (.int .i64 0))), (some (33, true)), false⟩,
   ⟨(some 39), (.pick (.t 33) (.t 38) (.c (.bool false))), none, false⟩]
@[simp] def c_fpref37_Over_r8 : List AOper :=
  [⟨(some 40), (.mv (.t 7)), none, false⟩,
   ⟨(some 41), (.len (.t 40)), none, false⟩,
   ⟨(some 42), (.bin .num .eql (.t 41) (.c (.int .i64 0))), none, false⟩]
@[simp] def c_fpref37_Over_r9 : List AOper :=
  [⟨(some 43), (.faddr 6 (.t 9)), none, false⟩,
   ⟨(some 44), (.load false 1 (.t 43)), none, false⟩,
   ⟨(some 7), (.mv (.t 44)), none, false⟩]
@[simp] def c_fpref37_Over_r10 : List AOper :=
  [⟨(some 45), (.mv (.t 7)), none, false⟩,
   ⟨(some 46), (.faddr 6 (.t 9)), none, false⟩,
   ⟨(some 47), (.load false 1 (.t 46)), none, false⟩,
   ⟨(some 48), (.call (.f 73) [(.t 45), (.t 47)]), none, false⟩,
   ⟨(some 7), (.mv (.t 48)), none, false⟩]
@[simp] def c_fpref37_Over_r11 : List AOper :=
  [⟨(some 21), (.mv (.t 8)), none, false⟩,
   ⟨(some 22), (.bin .num .add (.t 21) (.c (.int .i64 1))), none, false⟩,
   ⟨(some 8), (.mv (.t 22)), none, false⟩]
def c_fpref37_Over_l0 : AC := (.seq (.seq (.region false c_fpref37_Over_r5) (.cond (.t 20) .skip (.exit 0))) (.seq (.block 1 (.seq (.region false c_fpref37_Over_r6) (.seq (.region false c_fpref37_Over_r7) (.cond (.t 39) (.seq (.seq (.region false c_fpref37_Over_r8) (.cond (.t 42) (.region false c_fpref37_Over_r9) .skip)) (.region false c_fpref37_Over_r10)) .skip)))) (.region false c_fpref37_Over_r11)))
@[simp] def c_fpref37_Over_r12 : List AOper :=
  [⟨(some 49), (.mv (.t 7)), none, false⟩,
   ⟨(some 6), (.mv (.t 49)), none, false⟩]
@[simp] def c_fpref37_Over : AFn := ⟨[(.tmp 6)],
  (.seq (.region false c_fpref37_Over_r0) (.seq (.seq (.region false c_fpref37_Over_r1) (.cond (.t 12) (.seq (.region false c_fpref37_Over_r2) .ret) .skip)) (.seq (.region false c_fpref37_Over_r3) (.seq (.seq (.region false c_fpref37_Over_r4) (.block 0 (.loop c_fpref37_Over_l0))) (.seq (.region false c_fpref37_Over_r12) .ret))))),
  false, false⟩

/- fplaw37_example -/
@[simp] def c_fplaw37_example_r0 : List AOper :=
  [⟨(some 0), (.new 2 (.agg [.nil, .nil])), none, false⟩]
@[simp] def c_fplaw37_example_r1 : List AOper :=
  [⟨(some 1), (.call (.f 40) [(.c (.int .i64 0)), (.c (.int .i64 0))]), none, false⟩,
   ⟨(some 2), (.call (.f 39) [(.c (.int .i64 0))]), none, false⟩,
   ⟨(some 3), (.call (.f 39) [(.c (.int .i64 1))]), none, false⟩,
   ⟨(some 4), (.call (.f 40) [(.c (.int .i64 0)), (.c (.int .i64 2))]), none, false⟩,
   ⟨(some 5), (.call (.f 40) [(.c (.int .i64 1)), (.c (.int .i64 1))]), none, false⟩,
   ⟨(some 6), (.build [(.bool false), .nil, (.int .i64 0), (.bool false), .nil, (.int .i64 0), .nil, .nil] [(0, 3, (.t 2)), (3, 3, (.t 3)), (6, 1, (.t 4)), (7, 1, (.t 5))]), none, false⟩,
   ⟨(some 7), (.call (.f 39) [(.c (.int .i64 1))]), none, false⟩,
   ⟨(some 8), (.call (.f 39) [(.c (.int .i64 3))]), none, false⟩,
   ⟨(some 9), (.call (.f 40) [(.c (.int .i64 1)), (.c (.int .i64 3))]), none, false⟩,
   ⟨(some 10), (.call (.f 40) [(.c (.int .i64 3)), (.c (.int .i64 3))]), none, false⟩,
   ⟨(some 11), (.build [(.bool false), .nil, (.int .i64 0), (.bool false), .nil, (.int .i64 0), .nil, .nil] [(0, 3, (.t 7)), (3, 3, (.t 8)), (6, 1, (.t 9)), (7, 1, (.t 10))]), none, false⟩,
   ⟨(some 12), (.bslice 8 2 (.agg [(.bool false), .nil, (.int .i64 0), (.bool false), .nil, (.int .i64 0), .nil, .nil]) [(0, (.t 6)), (1, (.t 11))]), none, false⟩,
   ⟨(some 13), (.build [.nil, .nil] [(0, 1, (.t 1)), (1, 1, (.t 12))]), none, false⟩,
   ⟨none, (.store 2 (.t 0) (.t 13)), none, false⟩]
@[simp] def c_fplaw37_example : AFn := ⟨[(.cell 0 true 2)],
  (.seq (.region false c_fplaw37_example_r0) (.seq (.region false c_fplaw37_example_r1) .ret)),
  false, false⟩

/- fplaw37_n -/
@[simp] def c_fplaw37_n_r0 : List AOper :=
  [⟨(some 2), (.new 3 (.agg [(.bool false), .nil, (.int .i64 0)])), none, false⟩]
@[simp] def c_fplaw37_n_r1 : List AOper :=
  [⟨(some 3), (.mv (.t 0)), none, false⟩,
   ⟨(some 4), (.call (.f 74) [(.t 3)]), none, false⟩,
   ⟨none, (.store 3 (.t 2) (.t 4)), none, false⟩]
@[simp] def c_fplaw37_n : AFn := ⟨[(.cell 2 true 3)],
  (.seq (.region false c_fplaw37_n_r0) (.seq (.region false c_fplaw37_n_r1) .ret)),
  false, false⟩

/- fplaw37_of -/
@[simp] def c_fplaw37_of_r0 : List AOper :=
  [⟨(some 4), (.mv (.c .nil)), none, false⟩]
@[simp] def c_fplaw37_of_r1 : List AOper :=
  [⟨(some 5), (.mv (.t 0)), none, false⟩,
   ⟨(some 6), (.call (.f 39) [(.t 5)]), none, false⟩,
   ⟨(some 7), (.mv (.t 1)), none, false⟩,
   ⟨(some 8), (.call (.f 39) [(.t 7)]), none, false⟩,
   ⟨(some 9), (.build [(.bool false), .nil, (.int .i64 0), (.bool false), .nil, (.int .i64 0), (.bool false)] [(0, 3, (.t 6)), (3, 3, (.t 8))]), none, false⟩,
   ⟨(some 10), (.bslice 7 1 (.agg [(.bool false), .nil, (.int .i64 0), (.bool false), .nil, (.int .i64 0), (.bool false)]) [(0, (.t 9))]), none, false⟩,
   ⟨(some 4), (.mv (.t 10)), none, false⟩]
@[simp] def c_fplaw37_of : AFn := ⟨[(.tmp 4)],
  (.seq (.region false c_fplaw37_of_r0) (.seq (.region false c_fplaw37_of_r1) .ret)),
  false, false⟩

/- slices_ContainsFunc_Pipe -/
@[simp] def c_slices_ContainsFunc_Pipe_r0 : List AOper :=
  [⟨(some 4), (.mv (.c (.bool false))), none, false⟩]
@[simp] def c_slices_ContainsFunc_Pipe_r1 : List AOper :=
  [⟨(some 5), (.mv (.t 0)), none, false⟩,
   ⟨(some 6), (.mv (.t 1)), none, false⟩,
   ⟨(some 7), (.call (.f 75) [(.t 5), (.t 6)]), none, false⟩,
   ⟨(some 8), (.bin .num .geq (.t 7) (.c (.int .i64 0))), none, false⟩,
   ⟨(some 4), (.mv (.t 8)), none, false⟩]
@[simp] def c_slices_ContainsFunc_Pipe : AFn := ⟨[(.tmp 4)],
  (.seq (.region false c_slices_ContainsFunc_Pipe_r0) (.seq (.region false c_slices_ContainsFunc_Pipe_r1) .ret)),
  false, false⟩

/- fplaw37_great_1 -/
@[simp] def c_fplaw37_great_1_r0 : List AOper :=
  [⟨(some 1), (.box 2 (.t 0)), none, false⟩,
   ⟨(some 2), (.mv (.c (.bool false))), none, false⟩]
@[simp] def c_fplaw37_great_1_r1 : List AOper :=
  [⟨(some 3), (.faddr 1 (.t 1)), none, false⟩,
   ⟨(some 4), (.load false 1 (.t 3)), none, false⟩,
   ⟨(some 5), (.len (.t 4)), none, false⟩,
   ⟨(some 6), (.bin .num .gtr (.t 5) (.c (.int .i64 30))), none, false⟩,
   ⟨(some 7), (.mv (.t 6)), none, false⟩,
   ⟨(some 8), (.faddr 0 (.t 1)), (some (7, false)), false⟩,
   ⟨(some 9), (.load false 1 (.t 8)), (some (7, false)), false⟩,
   ⟨(some 10), (.call (.f 29) [(.t 9)]), (some (7, false)), false⟩,
   ⟨(some 11), (.pick (.t 7) (.c (.bool true)) (.t 10)), none, false⟩,
   ⟨(some 12), (.mv (.t 11)), none, false⟩,
   ⟨(some 13), (.faddr 1 (.t 1)), (some (12, false)), false⟩,
   ⟨(some 14), (.load false 1 (.t 13)), (some (12, false)), false⟩,
   ⟨(some 15), (.call (.f 43) [(.t 14), (.f 44)]), (some (12, false)), false⟩,
   ⟨(some 16), (.pick (.t 12) (.c (.bool true)) (.t 15)), none, false⟩,
   ⟨(some 2), (.mv (.t 16)), none, false⟩]
@[simp] def c_fplaw37_great_1 : AFn := ⟨[(.tmp 2)],
  (.seq (.region false c_fplaw37_great_1_r0) (.seq (.region false c_fplaw37_great_1_r1) .ret)),
  false, false⟩

/- slices_ContainsFunc_Segment -/
@[simp] def c_slices_ContainsFunc_Segment_r0 : List AOper :=
  [⟨(some 4), (.mv (.c (.bool false))), none, false⟩]
@[simp] def c_slices_ContainsFunc_Segment_r1 : List AOper :=
  [⟨(some 5), (.mv (.t 0)), none, false⟩,
   ⟨(some 6), (.mv (.t 1)), none, false⟩,
   ⟨(some 7), (.call (.f 32) [(.t 5), (.t 6)]), none, false⟩,
   ⟨(some 8), (.bin .num .geq (.t 7) (.c (.int .i64 0))), none, false⟩,
   ⟨(some 4), (.mv (.t 8)), none, false⟩]
@[simp] def c_slices_ContainsFunc_Segment : AFn := ⟨[(.tmp 4)],
  (.seq (.region false c_slices_ContainsFunc_Segment_r0) (.seq (.region false c_slices_ContainsFunc_Segment_r1) .ret)),
  false, false⟩

/- fplaw37_great_1_1 -/
@[simp] def c_fplaw37_great_1_1_r0 : List AOper :=
  [⟨(some 1), (.box 8 (.t 0)), none, false⟩,
   ⟨(some 2), (.mv (.c (.bool false))), none, false⟩]
@[simp] def c_fplaw37_great_1_1_r1 : List AOper :=
  [⟨(some 3), (.faddr 0 (.t 1)), none, false⟩,
   ⟨(some 4), (.load true 3 (.t 3)), none, false⟩,
   ⟨(some 5), (.call (.f 9) [(.t 4)]), none, false⟩,
   ⟨(some 6), (.mv (.t 5)), none, false⟩,
   ⟨(some 7), (.faddr 3 (.t 1)), (some (6, false)), false⟩,
   ⟨(some 8), (.load true 3 (.t 7)), (some (6, false)), false⟩,
   ⟨(some 9), (.call (.f 9) [(.t 8)]), (some (6, false)), false⟩,
   ⟨(some 10), (.pick (.t 6) (.c (.bool true)) (.t 9)), none, false⟩,
   ⟨(some 11), (.mv (.t 10)), none, false⟩,
   ⟨(some 12), (.faddr 6 (.t 1)), (some (11, false)), false⟩,
   ⟨(some 13), (.load false 1 (.t 12)), (some (11, false)), false⟩,
   ⟨(some 14), (.call (.f 29) [(.t 13)]), (some (11, false)), false⟩,
   ⟨(some 15), (.pick (.t 11) (.c (.bool true)) (.t 14)), none, false⟩,
   ⟨(some 16), (.mv (.t 15)), none, false⟩,
   ⟨(some 17), (.faddr 7 (.t 1)), (some (16, false)), false⟩,
   ⟨(some 18), (.load false 1 (.t 17)), (some (16, false)), false⟩,
   ⟨(some 19), (.call (.f 29) [(.t 18)]), (some (16, false)), false⟩,
   ⟨(some 20), (.pick (.t 16) (.c (.bool true)) (.t 19)), none, false⟩,
   ⟨(some 2), (.mv (.t 20)), none, false⟩]
@[simp] def c_fplaw37_great_1_1 : AFn := ⟨[(.tmp 2)],
  (.seq (.region false c_fplaw37_great_1_1_r0) (.seq (.region false c_fplaw37_great_1_1_r1) .ret)),
  false, false⟩

/- pipe_copied -/
@[simp] def c_pipe_copied_r0 : List AOper :=
  [⟨(some 1), (.box 2 (.t 0)), none, false⟩,
   ⟨(some 2), (.new 2 (.agg [.nil, .nil])), none, false⟩]
@[simp] def c_pipe_copied_r1 : List AOper :=
  [⟨(some 6), (.faddr 0 (.t 1)), none, false⟩,
   ⟨(some 7), (.load false 1 (.t 6)), none, false⟩,
   ⟨(some 8), (.call (.f 47) [(.t 7)]), none, false⟩,
   ⟨(some 9), (.build [.nil, .nil] [(0, 1, (.t 8))]), none, false⟩,
   ⟨(some 3), (.new 2 (.agg [.nil, .nil])), none, false⟩,
   ⟨none, (.store 2 (.t 3) (.t 9)), none, false⟩]
@[simp] def c_pipe_copied_r2 : List AOper :=
  [⟨(some 10), (.faddr 1 (.t 1)), none, false⟩,
   ⟨(some 11), (.load false 1 (.t 10)), none, false⟩,
   ⟨(some 12), (.len (.t 11)), none, false⟩,
   ⟨(some 13), (.mv (.c (.int .i64 0))), none, false⟩]
@[simp] def c_pipe_copied_r3 : List AOper :=
  [⟨(some 14), (.bin .num .lss (.t 13) (.t 12)), none, false⟩]
@[simp] def c_pipe_copied_r4 : List AOper :=
  [⟨(some 15), (.iaddr 8 (.t 11) (.t 13)), none, false⟩,
   ⟨(some 16), (.load true 8 (.t 15)), none, false⟩,
   ⟨(some 5), (.new 8 (.agg [(.bool false), .nil, (.int .i64 0), (.bool false), .nil, (.int .i64 0), .nil, .nil])), none, false⟩,
   ⟨none, (.store 8 (.t 5) (.t 16)), none, false⟩]
@[simp] def c_pipe_copied_r5 : List AOper :=
  [⟨(some 17), (.faddr 6 (.t 5)), none, false⟩,
   ⟨(some 18), (.load false 1 (.t 17)), none, false⟩,
   ⟨(some 19), (.call (.f 47) [(.t 18)]), none, false⟩,
   ⟨(some 20), (.faddr 7 (.t 5)), none, false⟩,
   ⟨(some 21), (.load false 1 (.t 20)), none, false⟩,
   ⟨(some 22), (.call (.f 47) [(.t 21)]), none, true⟩,
   ⟨(some 23), (.faddr 6 (.t 5)), none, false⟩,
   ⟨none, (.store 1 (.t 23) (.t 19)), none, true⟩,
   ⟨(some 24), (.faddr 7 (.t 5)), none, false⟩,
   ⟨none, (.store 1 (.t 24) (.t 22)), none, true⟩]
@[simp] def c_pipe_copied_r6 : List AOper :=
  [⟨(some 25), (.faddr 1 (.t 3)), none, false⟩,
   ⟨(some 26), (.load false 1 (.t 25)), none, false⟩,
   ⟨(some 27), (.load true 8 (.t 5)), none, false⟩,
   ⟨(some 28), (.bslice 8 1 (.agg [(.bool false), .nil, (.int .i64 0), (.bool false), .nil, (.int .i64 0), .nil, .nil]) [(0, (.t 27))]), none, false⟩,
   ⟨(some 29), (.append 8 128 (.t 26) (.t 28)), none, false⟩,
   ⟨(some 30), (.faddr 1 (.t 3)), none, false⟩,
   ⟨none, (.store 1 (.t 30) (.t 29)), none, false⟩]
@[simp] def c_pipe_copied_r7 : List AOper :=
  [⟨(some 31), (.bin .num .add (.t 13) (.c (.int .i64 1))), none, false⟩,
   ⟨(some 13), (.mv (.t 31)), none, false⟩]
def c_pipe_copied_l0 : AC := (.seq (.region false c_pipe_copied_r3) (.seq (.cond (.t 14) .skip (.exit 0)) (.seq (.block 1 (.seq (.region false c_pipe_copied_r4) (.seq (.region true c_pipe_copied_r5) (.region false c_pipe_copied_r6)))) (.region false c_pipe_copied_r7))))
@[simp] def c_pipe_copied_r8 : List AOper :=
  [⟨(some 32), (.load true 2 (.t 3)), none, false⟩,
   ⟨none, (.store 2 (.t 2) (.t 32)), none, false⟩]
@[simp] def c_pipe_copied : AFn := ⟨[(.cell 2 true 2)],
  (.seq (.region false c_pipe_copied_r0) (.seq (.region false c_pipe_copied_r1) (.seq (.seq (.region false c_pipe_copied_r2) (.block 0 (.loop c_pipe_copied_l0))) (.seq (.region false c_pipe_copied_r8) .ret)))),
  true, false⟩

/- pipe_less -/
@[simp] def c_pipe_less_r0 : List AOper :=
  [⟨(some 2), (.box 3 (.t 0)), none, false⟩,
   ⟨(some 3), (.box 3 (.t 1)), none, false⟩,
   ⟨(some 4), (.mv (.c (.bool false))), none, false⟩]
@[simp] def c_pipe_less_r1 : List AOper :=
  [⟨(some 5), (.load true 3 (.t 2)), none, false⟩,
   ⟨(some 6), (.load true 3 (.t 3)), none, false⟩,
   ⟨(some 7), (.call (.f 52) [(.t 5), (.t 6)]), none, false⟩,
   ⟨(some 8), (.bin .num .lss (.t 7) (.c (.int .i64 0))), none, false⟩,
   ⟨(some 4), (.mv (.t 8)), none, false⟩]
@[simp] def c_pipe_less : AFn := ⟨[(.tmp 4)],
  (.seq (.region false c_pipe_less_r0) (.seq (.region false c_pipe_less_r1) .ret)),
  false, false⟩

/- slices_Clone_Interval -/
@[simp] def c_slices_Clone_Interval_r0 : List AOper :=
  [⟨(some 2), (.mv (.c .nil)), none, false⟩]
@[simp] def c_slices_Clone_Interval_r1 : List AOper :=
  [⟨(some 3), (.mv (.t 0)), none, false⟩,
   ⟨(some 4), (.bin .slice .eql (.t 3) (.c .nil)), none, false⟩]
@[simp] def c_slices_Clone_Interval_r2 : List AOper :=
  [⟨(some 2), (.mv (.c .nil)), none, false⟩]
@[simp] def c_slices_Clone_Interval_r3 : List AOper :=
  [⟨(some 5), (.bslice 7 0 (.agg [(.bool false), .nil, (.int .i64 0), (.bool false), .nil, (.int .i64 0), (.bool false)]) []), none, false⟩,
   ⟨(some 6), (.mv (.t 0)), none, false⟩,
   ⟨(some 7), (.append 7 88 (.t 5) (.t 6)), none, false⟩,
   ⟨(some 2), (.mv (.t 7)), none, false⟩]
@[simp] def c_slices_Clone_Interval : AFn := ⟨[(.tmp 2)],
  (.seq (.region false c_slices_Clone_Interval_r0) (.seq (.seq (.region false c_slices_Clone_Interval_r1) (.cond (.t 4) (.seq (.region false c_slices_Clone_Interval_r2) .ret) .skip)) (.seq (.region false c_slices_Clone_Interval_r3) .ret))),
  false, false⟩

/- fpref37_Before -/
@[simp] def c_fpref37_Before_r0 : List AOper :=
  [⟨(some 2), (.box 2 (.t 0)), none, false⟩,
   ⟨(some 4), (.mv (.c .nil)), none, false⟩]
@[simp] def c_fpref37_Before_r1 : List AOper :=
  [⟨(some 5), (.mv (.t 1)), none, false⟩,
   ⟨(some 6), (.bin .num .eql (.t 5) (.c (.int .i64 0))), none, false⟩]
@[simp] def c_fpref37_Before_r2 : List AOper :=
  [⟨(some 7), (.faddr 0 (.t 2)), none, false⟩,
   ⟨(some 8), (.load false 1 (.t 7)), none, false⟩,
   ⟨(some 4), (.mv (.t 8)), none, false⟩]
@[simp] def c_fpref37_Before_r3 : List AOper :=
  [⟨(some 9), (.faddr 1 (.t 2)), none, false⟩,
   ⟨(some 10), (.load false 1 (.t 9)), none, false⟩,
   ⟨(some 11), (.mv (.t 1)), none, false⟩,
   ⟨(some 12), (.bin .num .sub (.t 11) (.c (.int .i64 1))), none, false⟩,
   ⟨(some 13), (.iaddr 8 (.t 10) (.t 12)), none, false⟩,
   ⟨(some 14), (.faddr 7 (.t 13)), none, false⟩,
   ⟨(some 15), (.load false 1 (.t 14)), none, false⟩,
   ⟨(some 4), (.mv (.t 15)), none, false⟩]
@[simp] def c_fpref37_Before : AFn := ⟨[(.tmp 4)],
  (.seq (.region false c_fpref37_Before_r0) (.seq (.seq (.region false c_fpref37_Before_r1) (.cond (.t 6) (.seq (.region false c_fpref37_Before_r2) .ret) .skip)) (.seq (.region false c_fpref37_Before_r3) .ret))),
  false, false⟩

/- fpref02_bits -/
@[simp] def c_fpref02_bits_r0 : List AOper :=
  [⟨(some 2), (.mv (.c (.int .i64 0))), none, false⟩]
@[simp] def c_fpref02_bits_r1 : List AOper :=
  [⟨(some 5), (.mv (.t 0)), none, false⟩,
   ⟨(some 6), (.len (.t 5)), none, false⟩,
   ⟨(some 7), (.bin .num .eql (.t 6) (.c (.int .i64 0))), none, false⟩]
@[simp] def c_fpref02_bits_r2 : List AOper :=
  [⟨(some 2), (.mv (.c (.int .i64 0))), none, false⟩]
@[simp] def c_fpref02_bits_r3 : List AOper :=
  [⟨(some 8), (.mv (.t 0)), none, false⟩,
   ⟨(some 9), (.len (.t 8)), none, false⟩,
   ⟨(some 10), (.bin .num .sub (.t 9) (.c (.int .i64 1))), none, false⟩,
   ⟨(some 11), (.bin .num .mul (.c (.int .i64 32)) (.t 10)), none, false⟩,
   ⟨(some 3), (.mv (.t 11)), none, false⟩]
@[simp] def c_fpref02_bits_r4 : List AOper :=
  [⟨(some 12), (.mv (.t 0)), none, false⟩,
   ⟨(some 13), (.mv (.t 0)), none, false⟩,
   ⟨(some 14), (.len (.t 13)), none, false⟩,
   ⟨(some 15), (.bin .num .sub (.t 14) (.c (.int .i64 1))), none, false⟩,
   ⟨(some 16), (.iaddr 1 (.t 12) (.t 15)), none, false⟩,
   ⟨(some 17), (.load false 1 (.t 16)), none, false⟩,
   ⟨(some 4), (.mv (.t 17)), none, false⟩]
@[simp] def c_fpref02_bits_r5 : List AOper :=
  [⟨(some 18), (.mv (.t 4)), none, false⟩,
   ⟨(some 19), (.bin .num .gtr (.t 18) (.c (.int .u32 0))), none, false⟩]
@[simp] def c_fpref02_bits_r6 : List AOper :=
  [⟨(some 22), (.mv (.t 3)), none, false⟩,
   ⟨(some 23), (.bin .num .add (.t 22) (.c (.int .i64 1))), none, false⟩,
   ⟨(some 3), (.mv (.t 23)), none, false⟩]
@[simp] def c_fpref02_bits_r7 : List AOper :=
  [⟨(some 20), (.mv (.t 4)), none, false⟩,
   ⟨(some 21), (.bin .num .shr (.t 20) (.c (.int .u64 1))), none, false⟩,
   ⟨(some 4), (.mv (.t 21)), none, false⟩]
def c_fpref02_bits_l0 : AC := (.seq (.seq (.region false c_fpref02_bits_r5) (.cond (.t 19) .skip (.exit 0))) (.seq (.block 1 (.region false c_fpref02_bits_r6)) (.region false c_fpref02_bits_r7)))
@[simp] def c_fpref02_bits_r8 : List AOper :=
  [⟨(some 24), (.mv (.t 3)), none, false⟩,
   ⟨(some 2), (.mv (.t 24)), none, false⟩]
@[simp] def c_fpref02_bits : AFn := ⟨[(.tmp 2)],
  (.seq (.region false c_fpref02_bits_r0) (.seq (.seq (.region false c_fpref02_bits_r1) (.cond (.t 7) (.seq (.region false c_fpref02_bits_r2) .ret) .skip)) (.seq (.region false c_fpref02_bits_r3) (.seq (.seq (.region false c_fpref02_bits_r4) (.block 0 (.loop c_fpref02_bits_l0))) (.seq (.region false c_fpref02_bits_r8) .ret))))),
  false, false⟩

/- box_Valid -/
@[simp] def c_box_Valid_r0 : List AOper :=
  [⟨(some 2), (.mv (.c (.bool false))), none, false⟩]
@[simp] def c_box_Valid_r1 : List AOper :=
  [⟨(some 3), (.mv (.t 0)), none, false⟩,
   ⟨(some 4), (.len (.t 3)), none, false⟩,
   ⟨(some 5), (.bin .num .geq (.t 4) (.c (.int .i64 1))), none, false⟩,
   ⟨(some 6), (.mv (.t 5)), none, false⟩,
   ⟨(some 7), (.mv (.t 0)), (some (6, true)), false⟩,
   ⟨(some 8), (.len (.t 7)), (some (6, true)), false⟩,
   ⟨(some 9), (.bin .num .leq (.t 8) (.c (.int .i64 8))), (some (6, true)), false⟩,
   ⟨(some 10), (.pick (.t 6) (.t 9) (.c (.bool false))), none, false⟩,
   ⟨(some 11), (.mv (.t 10)), none, false⟩,
   ⟨(some 12), (.mv (.t 0)), (some (11, true)), false⟩,
   ⟨(some 13), (.call (.f 67) [(.t 12), (.f 76)]), (some (11, true)), false⟩,
   ⟨(some 14), (.un .not (.t 13)), (some (11, true)), false⟩,
   ⟨(some 15), (.pick (.t 11) (.t 14) (.c (.bool false))), none, false⟩,
   ⟨(some 2), (.mv (.t 15)), none, false⟩]
@[simp] def c_box_Valid : AFn := ⟨[(.tmp 2)],
  (.seq (.region false c_box_Valid_r0) (.seq (.region false c_box_Valid_r1) .ret)),
  false, false⟩

/- dyadic_Valid -/
@[simp] def c_dyadic_Valid_r0 : List AOper :=
  [⟨(some 1), (.box 3 (.t 0)), none, false⟩,
   ⟨(some 2), (.mv (.c (.bool false))), none, false⟩]
@[simp] def c_dyadic_Valid_r1 : List AOper :=
  [⟨(some 3), (.faddr 1 (.t 1)), none, false⟩,
   ⟨(some 4), (.load false 1 (.t 3)), none, false⟩,
   ⟨(some 5), (.len (.t 4)), none, false⟩,
   ⟨(some 6), (.bin .num .eql (.t 5) (.c (.int .i64 0))), none, false⟩]
@[simp] def c_dyadic_Valid_r2 : List AOper :=
  [⟨(some 7), (.faddr 0 (.t 1)), none, false⟩,
   ⟨(some 8), (.load false 1 (.t 7)), none, false⟩,
   ⟨(some 9), (.un .not (.t 8)), none, false⟩,
   ⟨(some 10), (.mv (.t 9)), none, false⟩,
   ⟨(some 11), (.faddr 2 (.t 1)), (some (10, true)), false⟩,
   ⟨(some 12), (.load false 1 (.t 11)), (some (10, true)), false⟩,
   ⟨(some 13), (.bin .num .eql (.t 12) (.c (.int .i64 0))), (some (10, true)), false⟩,
   ⟨(some 14), (.pick (.t 10) (.t 13) (.c (.bool false))), none, false⟩,
   ⟨(some 2), (.mv (.t 14)), none, false⟩]
@[simp] def c_dyadic_Valid_r3 : List AOper :=
  [⟨(some 15), (.faddr 1 (.t 1)), none, false⟩,
   ⟨(some 16), (.load false 1 (.t 15)), none, false⟩,
   ⟨(some 17), (.len (.t 16)), none, false⟩,
   ⟨(some 18), (.bin .num .leq (.t 17) (.c (.int .i64 256))), none, false⟩,
   ⟨(some 19), (.mv (.t 18)), none, false⟩,
   ⟨(some 20), (.faddr 1 (.t 1)), (some (19, true)), false⟩,
   ⟨(some 21), (.load false 1 (.t 20)), (some (19, true)), false⟩,
   ⟨(some 22), (.iaddr 1 (.t 21) (.c (.int .i64 0))), (some (19, true)), false⟩,
   ⟨(some 23), (.load false 1 (.t 22)), (some (19, true)), false⟩,
   ⟨(some 24), (.bin .num .rem (.t 23) (.c (.int .u32 2))), (some (19, true)), false⟩,
   ⟨(some 25), (.bin .num .eql (.t 24) (.c (.int .u32 1))), (some (19, true)), false⟩,
   ⟨(some 26), (.pick (.t 19) (.t 25) (.c (.bool false))), none, false⟩,
   ⟨(some 27), (.mv (.t 26)), none, false⟩,
   ⟨(some 28), (.faddr 1 (.t 1)), (some (27, true)), false⟩,
   ⟨(some 29), (.load false 1 (.t 28)), (some (27, true)), false⟩,
   ⟨(some 30), (.faddr 1 (.t 1)), (some (27, true)), false⟩,
   ⟨(some 31), (.load false 1 (.t 30)), (some (27, true)), false⟩,
   ⟨(some 32), (.len (.t 31)), (some (27, true)), false⟩,
   ⟨(some 33), (.bin .num .sub (.t 32) (.c (.int .i64 1))), (some (27, true)), false⟩,
   ⟨(some 34), (.iaddr 1 (.t 29) (.t 33)), (some (27, true)), false⟩,
   ⟨(some 35), (.load false 1 (.t 34)), (some (27, true)), false⟩,
   ⟨(some 36), (.bin .num .neq (.t 35) (.c (.int .u32 0))), (some (27, true)), false⟩,
   ⟨(some 37), (.pick (.t 27) (.t 36) (.c (.bool false))), none, false⟩,
   ⟨(some 38), (.mv (.t 37)), none, false⟩,
   ⟨(some 39), (.load true 3 (.t 1)), (some (38, true)), false⟩,
   ⟨(some 40), (.call (.f 78) [(.t 39)]), (some (38, true)), false⟩,
   ⟨(some 41), (.pick (.t 38) (.t 40) (.c (.bool false))), none, false⟩,
   ⟨(some 2), (.mv (.t 41)), none, false⟩]
@[simp] def c_dyadic_Valid : AFn := ⟨[(.tmp 2)],
  (.seq (.region false c_dyadic_Valid_r0) (.seq (.seq (.region false c_dyadic_Valid_r1) (.cond (.t 6) (.seq (.region false c_dyadic_Valid_r2) .ret) .skip)) (.seq (.region false c_dyadic_Valid_r3) .ret))),
  false, false⟩

/- dyadic_Cmp -/
@[simp] def c_dyadic_Cmp_r0 : List AOper :=
  [⟨(some 2), (.box 3 (.t 0)), none, false⟩,
   ⟨(some 3), (.box 3 (.t 1)), none, false⟩,
   ⟨(some 4), (.mv (.c (.int .i64 0))), none, false⟩]
@[simp] def c_dyadic_Cmp_r1 : List AOper :=
  [⟨(some 7), (.load true 3 (.t 2)), none, false⟩,
   ⟨(some 8), (.call (.f 51) [(.t 7)]), none, false⟩,
   ⟨(some 9), (.un .not (.t 8)), none, false⟩,
   ⟨(some 10), (.mv (.t 9)), none, false⟩,
   ⟨(some 11), (.load true 3 (.t 3)), (some (10, false)), false⟩,
   ⟨(some 12), (.call (.f 51) [(.t 11)]), (some (10, false)), false⟩,
   ⟨(some 13), (.un .not (.t 12)), (some (10, false)), false⟩,
   ⟨(some 14), (.pick (.t 10) (.c (.bool true)) (.t 13)), none, false⟩]
@[simp] def c_dyadic_Cmp_r2 : List AOper :=
  [⟨(some 4), (.mv (.c (.int .i64 0))), none, false⟩]
@[simp] def c_dyadic_Cmp_r3 : List AOper :=
  [⟨(some 15), (.load true 3 (.t 2)), none, false⟩,
   ⟨(some 16), (.call (.f 79) [(.t 15)]), none, false⟩,
   ⟨(some 17), (.load true 3 (.t 3)), none, false⟩,
   ⟨(some 18), (.call (.f 79) [(.t 17)]), none, true⟩,
   ⟨(some 5), (.mv (.t 16)), none, false⟩,
   ⟨(some 6), (.mv (.t 18)), none, false⟩]
@[simp] def c_dyadic_Cmp_r4 : List AOper :=
  [⟨(some 20), (.mv (.t 5)), none, false⟩,
   ⟨(some 21), (.mv (.t 6)), none, false⟩,
   ⟨(some 22), (.bin .num .lss (.t 20) (.t 21)), none, false⟩,
   ⟨(some 19), (.mv (.t 22)), none, false⟩]
@[simp] def c_dyadic_Cmp_r5 : List AOper :=
  [⟨(some 4), (.mv (.c (.int .i64 (-1)))), none, false⟩]
@[simp] def c_dyadic_Cmp_r6 : List AOper :=
  [⟨(some 24), (.mv (.t 5)), none, false⟩,
   ⟨(some 25), (.mv (.t 6)), none, false⟩,
   ⟨(some 26), (.bin .num .gtr (.t 24) (.t 25)), none, false⟩,
   ⟨(some 23), (.mv (.t 26)), none, false⟩]
@[simp] def c_dyadic_Cmp_r7 : List AOper :=
  [⟨(some 4), (.mv (.c (.int .i64 1))), none, false⟩]
@[simp] def c_dyadic_Cmp_r8 : List AOper :=
  [⟨(some 28), (.mv (.t 5)), none, false⟩,
   ⟨(some 29), (.bin .num .eql (.t 28) (.c (.int .i64 0))), none, false⟩,
   ⟨(some 27), (.mv (.t 29)), none, false⟩]
@[simp] def c_dyadic_Cmp_r9 : List AOper :=
  [⟨(some 4), (.mv (.c (.int .i64 0))), none, false⟩]
@[simp] def c_dyadic_Cmp_r10 : List AOper :=
  [⟨(some 30), (.mv (.t 5)), none, false⟩,
   ⟨(some 31), (.load true 3 (.t 2)), none, false⟩,
   ⟨(some 32), (.load true 3 (.t 3)), none, false⟩,
   ⟨(some 33), (.call (.f 80) [(.t 31), (.t 32)]), none, false⟩,
   ⟨(some 34), (.bin .num .mul (.t 30) (.t 33)), none, false⟩,
   ⟨(some 4), (.mv (.t 34)), none, false⟩]
@[simp] def c_dyadic_Cmp : AFn := ⟨[(.tmp 4)],
  (.seq (.region false c_dyadic_Cmp_r0) (.seq (.seq (.region false c_dyadic_Cmp_r1) (.cond (.t 14) (.seq (.region false c_dyadic_Cmp_r2) .ret) .skip)) (.seq (.region true c_dyadic_Cmp_r3) (.seq (.block 0 (.seq (.region false c_dyadic_Cmp_r4) (.cond (.t 19) (.seq (.region false c_dyadic_Cmp_r5) .ret) (.seq (.region false c_dyadic_Cmp_r6) (.cond (.t 23) (.seq (.region false c_dyadic_Cmp_r7) .ret) (.seq (.region false c_dyadic_Cmp_r8) (.cond (.t 27) (.seq (.region false c_dyadic_Cmp_r9) .ret) .skip))))))) (.seq (.region false c_dyadic_Cmp_r10) .ret))))),
  false, false⟩

/- box_Inside -/
@[simp] def c_box_Inside_r0 : List AOper :=
  [⟨(some 4), (.mv (.c (.bool false))), none, false⟩]
@[simp] def c_box_Inside_r1 : List AOper :=
  [⟨(some 5), (.mv (.t 0)), none, false⟩,
   ⟨(some 6), (.mv (.t 1)), none, false⟩,
   ⟨(some 7), (.call (.f 81) [(.t 5), (.t 6)]), none, false⟩,
   ⟨(some 8), (.mv (.t 7)), none, false⟩,
   ⟨(some 9), (.mv (.t 0)), (some (8, true)), false⟩,
   ⟨(some 10), (.mv (.t 1)), (some (8, true)), false⟩,
   ⟨(some 11), (.call (.f 82) [(.t 9), (.t 10), (.f 83)]), (some (8, true)), false⟩,
   ⟨(some 12), (.pick (.t 8) (.t 11) (.c (.bool false))), none, false⟩,
   ⟨(some 4), (.mv (.t 12)), none, false⟩]
@[simp] def c_box_Inside : AFn := ⟨[(.tmp 4)],
  (.seq (.region false c_box_Inside_r0) (.seq (.region false c_box_Inside_r1) .ret)),
  false, false⟩

/- fpref02_Sign -/
@[simp] def c_fpref02_Sign_r0 : List AOper :=
  [⟨(some 1), (.box 3 (.t 0)), none, false⟩,
   ⟨(some 2), (.mv (.c (.int .i64 0))), none, false⟩]
@[simp] def c_fpref02_Sign_r1 : List AOper :=
  [⟨(some 3), (.faddr 1 (.t 1)), none, false⟩,
   ⟨(some 4), (.load false 1 (.t 3)), none, false⟩,
   ⟨(some 5), (.len (.t 4)), none, false⟩,
   ⟨(some 6), (.bin .num .eql (.t 5) (.c (.int .i64 0))), none, false⟩]
@[simp] def c_fpref02_Sign_r2 : List AOper :=
  [⟨(some 2), (.mv (.c (.int .i64 0))), none, false⟩]
@[simp] def c_fpref02_Sign_r3 : List AOper :=
  [⟨(some 7), (.faddr 0 (.t 1)), none, false⟩,
   ⟨(some 8), (.load false 1 (.t 7)), none, false⟩]
@[simp] def c_fpref02_Sign_r4 : List AOper :=
  [⟨(some 2), (.mv (.c (.int .i64 (-1)))), none, false⟩]
@[simp] def c_fpref02_Sign_r5 : List AOper :=
  [⟨(some 2), (.mv (.c (.int .i64 1))), none, false⟩]
@[simp] def c_fpref02_Sign : AFn := ⟨[(.tmp 2)],
  (.seq (.region false c_fpref02_Sign_r0) (.seq (.seq (.region false c_fpref02_Sign_r1) (.cond (.t 6) (.seq (.region false c_fpref02_Sign_r2) .ret) .skip)) (.seq (.seq (.region false c_fpref02_Sign_r3) (.cond (.t 8) (.seq (.region false c_fpref02_Sign_r4) .ret) .skip)) (.seq (.region false c_fpref02_Sign_r5) .ret)))),
  false, false⟩

/- fpref02_Top -/
@[simp] def c_fpref02_Top_r0 : List AOper :=
  [⟨(some 1), (.box 3 (.t 0)), none, false⟩,
   ⟨(some 2), (.mv (.c (.int .i64 0))), none, false⟩]
@[simp] def c_fpref02_Top_r1 : List AOper :=
  [⟨(some 3), (.faddr 1 (.t 1)), none, false⟩,
   ⟨(some 4), (.load false 1 (.t 3)), none, false⟩,
   ⟨(some 5), (.len (.t 4)), none, false⟩,
   ⟨(some 6), (.bin .num .eql (.t 5) (.c (.int .i64 0))), none, false⟩]
@[simp] def c_fpref02_Top_r2 : List AOper :=
  [⟨(some 2), (.mv (.c (.int .i64 0))), none, false⟩]
@[simp] def c_fpref02_Top_r3 : List AOper :=
  [⟨(some 7), (.faddr 1 (.t 1)), none, false⟩,
   ⟨(some 8), (.load false 1 (.t 7)), none, false⟩,
   ⟨(some 9), (.call (.f 49) [(.t 8)]), none, false⟩,
   ⟨(some 10), (.faddr 2 (.t 1)), none, false⟩,
   ⟨(some 11), (.load false 1 (.t 10)), none, false⟩,
   ⟨(some 12), (.bin .num .add (.t 9) (.t 11)), none, false⟩,
   ⟨(some 2), (.mv (.t 12)), none, false⟩]
@[simp] def c_fpref02_Top : AFn := ⟨[(.tmp 2)],
  (.seq (.region false c_fpref02_Top_r0) (.seq (.seq (.region false c_fpref02_Top_r1) (.cond (.t 6) (.seq (.region false c_fpref02_Top_r2) .ret) .skip)) (.seq (.region true c_fpref02_Top_r3) .ret))),
  false, false⟩

/- fpref02_Sum -/
@[simp] def c_fpref02_Sum_r0 : List AOper :=
  [⟨(some 2), (.box 3 (.t 0)), none, false⟩,
   ⟨(some 3), (.box 3 (.t 1)), none, false⟩,
   ⟨(some 4), (.new 3 (.agg [(.bool false), .nil, (.int .i64 0)])), none, false⟩]
@[simp] def c_fpref02_Sum_r1 : List AOper :=
  [⟨(some 8), (.faddr 1 (.t 2)), none, false⟩,
   ⟨(some 9), (.load false 1 (.t 8)), none, false⟩,
   ⟨(some 10), (.len (.t 9)), none, false⟩,
   ⟨(some 11), (.bin .num .eql (.t 10) (.c (.int .i64 0))), none, false⟩]
@[simp] def c_fpref02_Sum_r2 : List AOper :=
  [⟨(some 12), (.load true 3 (.t 3)), none, false⟩,
   ⟨none, (.store 3 (.t 4) (.t 12)), none, false⟩]
@[simp] def c_fpref02_Sum_r3 : List AOper :=
  [⟨(some 13), (.faddr 1 (.t 3)), none, false⟩,
   ⟨(some 14), (.load false 1 (.t 13)), none, false⟩,
   ⟨(some 15), (.len (.t 14)), none, false⟩,
   ⟨(some 16), (.bin .num .eql (.t 15) (.c (.int .i64 0))), none, false⟩]
@[simp] def c_fpref02_Sum_r4 : List AOper :=
  [⟨(some 17), (.load true 3 (.t 2)), none, false⟩,
   ⟨none, (.store 3 (.t 4) (.t 17)), none, false⟩]
@[simp] def c_fpref02_Sum_r5 : List AOper :=
  [⟨(some 18), (.faddr 2 (.t 2)), none, false⟩,
   ⟨(some 19), (.load false 1 (.t 18)), none, false⟩,
   ⟨(some 20), (.faddr 2 (.t 3)), none, false⟩,
   ⟨(some 21), (.load false 1 (.t 20)), none, false⟩,
   ⟨(some 22), (.min (.t 19) (.t 21)), none, false⟩,
   ⟨(some 5), (.mv (.t 22)), none, false⟩]
@[simp] def c_fpref02_Sum_r6 : List AOper :=
  [⟨(some 23), (.faddr 1 (.t 2)), none, false⟩,
   ⟨(some 24), (.load false 1 (.t 23)), none, false⟩,
   ⟨(some 25), (.faddr 2 (.t 2)), none, false⟩,
   ⟨(some 26), (.load false 1 (.t 25)), none, false⟩,
   ⟨(some 27), (.mv (.t 5)), none, false⟩,
   ⟨(some 28), (.bin .num .sub (.t 26) (.t 27)), none, false⟩,
   ⟨(some 29), (.call (.f 84) [(.t 24), (.t 28)]), none, false⟩,
   ⟨(some 30), (.faddr 1 (.t 3)), none, false⟩,
   ⟨(some 31), (.load false 1 (.t 30)), none, false⟩,
   ⟨(some 32), (.faddr 2 (.t 3)), none, false⟩,
   ⟨(some 33), (.load false 1 (.t 32)), none, false⟩,
   ⟨(some 34), (.mv (.t 5)), none, false⟩,
   ⟨(some 35), (.bin .num .sub (.t 33) (.t 34)), none, false⟩,
   ⟨(some 36), (.call (.f 84) [(.t 31), (.t 35)]), none, true⟩,
   ⟨(some 6), (.mv (.t 29)), none, false⟩,
   ⟨(some 7), (.mv (.t 36)), none, false⟩]
@[simp] def c_fpref02_Sum_r7 : List AOper :=
  [⟨(some 37), (.faddr 0 (.t 2)), none, false⟩,
   ⟨(some 38), (.load false 1 (.t 37)), none, false⟩,
   ⟨(some 39), (.faddr 0 (.t 3)), none, false⟩,
   ⟨(some 40), (.load false 1 (.t 39)), none, false⟩,
   ⟨(some 41), (.bin .bool .eql (.t 38) (.t 40)), none, false⟩]
@[simp] def c_fpref02_Sum_r8 : List AOper :=
  [⟨(some 42), (.faddr 0 (.t 2)), none, false⟩,
   ⟨(some 43), (.load false 1 (.t 42)), none, false⟩,
   ⟨(some 44), (.mv (.t 6)), none, false⟩,
   ⟨(some 45), (.mv (.t 7)), none, false⟩,
   ⟨(some 46), (.call (.f 86) [(.t 44), (.t 45)]), none, false⟩,
   ⟨(some 47), (.mv (.t 5)), none, false⟩,
   ⟨(some 48), (.call (.f 85) [(.t 43), (.t 46), (.t 47)]), none, true⟩,
   ⟨none, (.store 3 (.t 4) (.t 48)), none, true⟩]
@[simp] def c_fpref02_Sum_r9 : List AOper :=
  [⟨(some 49), (.mv (.t 6)), none, false⟩,
   ⟨(some 50), (.mv (.t 7)), none, false⟩,
   ⟨(some 51), (.call (.f 63) [(.t 49), (.t 50)]), none, false⟩,
   ⟨(some 52), (.bin .num .geq (.t 51) (.c (.int .i64 0))), none, false⟩]
@[simp] def c_fpref02_Sum_r10 : List AOper :=
  [⟨(some 53), (.faddr 0 (.t 2)), none, false⟩,
   ⟨(some 54), (.load false 1 (.t 53)), none, false⟩,
   ⟨(some 55), (.mv (.t 6)), none, false⟩,
   ⟨(some 56), (.mv (.t 7)), none, false⟩,
   ⟨(some 57), (.call (.f 87) [(.t 55), (.t 56)]), none, false⟩,
   ⟨(some 58), (.mv (.t 5)), none, false⟩,
   ⟨(some 59), (.call (.f 85) [(.t 54), (.t 57), (.t 58)]), none, true⟩,
   ⟨none, (.store 3 (.t 4) (.t 59)), none, true⟩]
@[simp] def c_fpref02_Sum_r11 : List AOper :=
  [⟨(some 60), (.faddr 0 (.t 3)), none, false⟩,
   ⟨(some 61), (.load false 1 (.t 60)), none, false⟩,
   ⟨(some 62), (.mv (.t 7)), none, false⟩,
   ⟨(some 63), (.mv (.t 6)), none, false⟩,
   ⟨(some 64), (.call (.f 87) [(.t 62), (.t 63)]), none, false⟩,
   ⟨(some 65), (.mv (.t 5)), none, false⟩,
   ⟨(some 66), (.call (.f 85) [(.t 61), (.t 64), (.t 65)]), none, true⟩,
   ⟨none, (.store 3 (.t 4) (.t 66)), none, true⟩]
@[simp] def c_fpref02_Sum : AFn := ⟨[(.cell 4 true 3)],
  (.seq (.region false c_fpref02_Sum_r0) (.seq (.seq (.region false c_fpref02_Sum_r1) (.cond (.t 11) (.seq (.region false c_fpref02_Sum_r2) .ret) .skip)) (.seq (.seq (.region false c_fpref02_Sum_r3) (.cond (.t 16) (.seq (.region false c_fpref02_Sum_r4) .ret) .skip)) (.seq (.region false c_fpref02_Sum_r5) (.seq (.region true c_fpref02_Sum_r6) (.seq (.seq (.region false c_fpref02_Sum_r7) (.cond (.t 41) (.seq (.region true c_fpref02_Sum_r8) .ret) .skip)) (.seq (.seq (.region false c_fpref02_Sum_r9) (.cond (.t 52) (.seq (.region true c_fpref02_Sum_r10) .ret) .skip)) (.seq (.region true c_fpref02_Sum_r11) .ret)))))))),
  false, false⟩

/- fpref02_Neg -/
@[simp] def c_fpref02_Neg_r0 : List AOper :=
  [⟨(some 1), (.box 3 (.t 0)), none, false⟩,
   ⟨(some 2), (.new 3 (.agg [(.bool false), .nil, (.int .i64 0)])), none, false⟩]
@[simp] def c_fpref02_Neg_r1 : List AOper :=
  [⟨(some 3), (.faddr 0 (.t 1)), none, false⟩,
   ⟨(some 4), (.load false 1 (.t 3)), none, false⟩,
   ⟨(some 5), (.un .not (.t 4)), none, false⟩,
   ⟨(some 6), (.mv (.t 5)), none, false⟩,
   ⟨(some 7), (.faddr 1 (.t 1)), (some (6, true)), false⟩,
   ⟨(some 8), (.load false 1 (.t 7)), (some (6, true)), false⟩,
   ⟨(some 9), (.len (.t 8)), (some (6, true)), false⟩,
   ⟨(some 10), (.bin .num .gtr (.t 9) (.c (.int .i64 0))), (some (6, true)), false⟩,
   ⟨(some 11), (.pick (.t 6) (.t 10) (.c (.bool false))), none, false⟩,
   ⟨(some 12), (.faddr 1 (.t 1)), none, false⟩,
   ⟨(some 13), (.load false 1 (.t 12)), none, false⟩,
   ⟨(some 14), (.faddr 2 (.t 1)), none, false⟩,
   ⟨(some 15), (.load false 1 (.t 14)), none, false⟩,
   ⟨(some 16), (.build [(.bool false), .nil, (.int .i64 0)] [(0, 1, (.t 11)), (1, 1, (.t 13)), (2, 1, (.t 15))]), none, false⟩,
   ⟨none, (.store 3 (.t 2) (.t 16)), none, false⟩]
@[simp] def c_fpref02_Neg : AFn := ⟨[(.cell 2 true 3)],
  (.seq (.region false c_fpref02_Neg_r0) (.seq (.region false c_fpref02_Neg_r1) .ret)),
  false, false⟩

/- pipe_during -/
@[simp] def c_pipe_during_r0 : List AOper :=
  [⟨(some 2), (.box 2 (.t 0)), none, false⟩,
   ⟨(some 3), (.box 3 (.t 1)), none, false⟩,
   ⟨(some 4), (.mv (.c (.bool false))), none, false⟩]
@[simp] def c_pipe_during_r1 : List AOper :=
  [⟨(some 5), (.faddr 1 (.t 2)), none, false⟩,
   ⟨(some 6), (.load false 1 (.t 5)), none, false⟩,
   ⟨(some 7), (.len (.t 6)), none, false⟩,
   ⟨(some 8), (.bin .num .gtr (.t 7) (.c (.int .i64 0))), none, false⟩,
   ⟨(some 9), (.mv (.t 8)), none, false⟩,
   ⟨(some 10), (.load true 3 (.t 3)), (some (9, true)), false⟩,
   ⟨(some 11), (.load true 2 (.t 2)), (some (9, true)), false⟩,
   ⟨(some 12), (.call (.f 64) [(.t 11)]), (some (9, true)), false⟩,
   ⟨(some 13), (.call (.f 46) [(.t 10), (.t 12)]), (some (9, true)), true⟩,
   ⟨(some 14), (.un .not (.t 13)), (some (9, true)), false⟩,
   ⟨(some 15), (.pick (.t 9) (.t 14) (.c (.bool false))), none, false⟩,
   ⟨(some 16), (.mv (.t 15)), none, false⟩,
   ⟨(some 17), (.load true 2 (.t 2)), (some (16, true)), false⟩,
   ⟨(some 18), (.call (.f 61) [(.t 17)]), (some (16, true)), false⟩,
   ⟨(some 19), (.field true 3 3 (.t 18)), (some (16, true)), false⟩,
   ⟨(some 20), (.load true 3 (.t 3)), (some (16, true)), false⟩,
   ⟨(some 21), (.call (.f 46) [(.t 19), (.t 20)]), (some (16, true)), true⟩,
   ⟨(some 22), (.un .not (.t 21)), (some (16, true)), false⟩,
   ⟨(some 23), (.pick (.t 16) (.t 22) (.c (.bool false))), none, false⟩,
   ⟨(some 4), (.mv (.t 23)), none, false⟩]
@[simp] def c_pipe_during : AFn := ⟨[(.tmp 4)],
  (.seq (.region false c_pipe_during_r0) (.seq (.region true c_pipe_during_r1) .ret)),
  false, false⟩

/- pipe_at -/
@[simp] def c_pipe_at_r0 : List AOper :=
  [⟨(some 2), (.box 2 (.t 0)), none, false⟩,
   ⟨(some 3), (.box 3 (.t 1)), none, false⟩,
   ⟨(some 4), (.mv (.c .nil)), none, false⟩]
@[simp] def c_pipe_at_r1 : List AOper :=
  [⟨(some 7), (.load true 3 (.t 3)), none, false⟩,
   ⟨(some 8), (.load true 2 (.t 2)), none, false⟩,
   ⟨(some 9), (.call (.f 64) [(.t 8)]), none, false⟩,
   ⟨(some 10), (.call (.f 52) [(.t 7), (.t 9)]), none, true⟩,
   ⟨(some 11), (.bin .num .eql (.t 10) (.c (.int .i64 0))), none, false⟩]
@[simp] def c_pipe_at_r2 : List AOper :=
  [⟨(some 12), (.faddr 0 (.t 2)), none, false⟩,
   ⟨(some 13), (.load false 1 (.t 12)), none, false⟩,
   ⟨(some 14), (.call (.f 47) [(.t 13)]), none, false⟩,
   ⟨(some 4), (.mv (.t 14)), none, false⟩]
@[simp] def c_pipe_at_r3 : List AOper :=
  [⟨(some 15), (.faddr 1 (.t 2)), none, false⟩,
   ⟨(some 16), (.load false 1 (.t 15)), none, false⟩,
   ⟨(some 17), (.mkfn 88 [(.t 3)]), none, false⟩,
   ⟨(some 18), (.call (.f 32) [(.t 16), (.t 17)]), none, false⟩,
   ⟨(some 5), (.mv (.t 18)), none, false⟩]
@[simp] def c_pipe_at_r4 : List AOper :=
  [⟨(some 19), (.faddr 1 (.t 2)), none, false⟩,
   ⟨(some 20), (.load false 1 (.t 19)), none, false⟩,
   ⟨(some 21), (.mv (.t 5)), none, false⟩,
   ⟨(some 22), (.iaddr 8 (.t 20) (.t 21)), none, false⟩,
   ⟨(some 23), (.load true 8 (.t 22)), none, false⟩,
   ⟨(some 6), (.new 8 (.agg [(.bool false), .nil, (.int .i64 0), (.bool false), .nil, (.int .i64 0), .nil, .nil])), none, false⟩,
   ⟨none, (.store 8 (.t 6) (.t 23)), none, false⟩]
@[simp] def c_pipe_at_r5 : List AOper :=
  [⟨(some 24), (.load true 3 (.t 3)), none, false⟩,
   ⟨(some 25), (.faddr 3 (.t 6)), none, false⟩,
   ⟨(some 26), (.load true 3 (.t 25)), none, false⟩,
   ⟨(some 27), (.call (.f 46) [(.t 24), (.t 26)]), none, false⟩]
@[simp] def c_pipe_at_r6 : List AOper :=
  [⟨(some 28), (.faddr 6 (.t 6)), none, false⟩,
   ⟨(some 29), (.load false 1 (.t 28)), none, false⟩,
   ⟨(some 30), (.call (.f 47) [(.t 29)]), none, false⟩,
   ⟨(some 4), (.mv (.t 30)), none, false⟩]
@[simp] def c_pipe_at_r7 : List AOper :=
  [⟨(some 31), (.faddr 1 (.t 2)), none, false⟩,
   ⟨(some 32), (.load false 1 (.t 31)), none, false⟩,
   ⟨(some 33), (.mv (.t 5)), none, false⟩,
   ⟨(some 34), (.iaddr 8 (.t 32) (.t 33)), none, false⟩,
   ⟨(some 35), (.faddr 7 (.t 34)), none, false⟩,
   ⟨(some 36), (.load false 1 (.t 35)), none, false⟩,
   ⟨(some 37), (.call (.f 47) [(.t 36)]), none, false⟩,
   ⟨(some 4), (.mv (.t 37)), none, false⟩]
@[simp] def c_pipe_at : AFn := ⟨[(.tmp 4)],
  (.seq (.region false c_pipe_at_r0) (.seq (.seq (.region true c_pipe_at_r1) (.cond (.t 11) (.seq (.region false c_pipe_at_r2) .ret) .skip)) (.seq (.region false c_pipe_at_r3) (.seq (.seq (.region false c_pipe_at_r4) (.seq (.region false c_pipe_at_r5) (.cond (.t 27) (.seq (.region false c_pipe_at_r6) .ret) .skip))) (.seq (.region false c_pipe_at_r7) .ret))))),
  false, false⟩

/- fpref05_Equal -/
@[simp] def c_fpref05_Equal_r0 : List AOper :=
  [⟨(some 2), (.box 7 (.t 0)), none, false⟩,
   ⟨(some 3), (.box 7 (.t 1)), none, false⟩,
   ⟨(some 4), (.mv (.c (.bool false))), none, false⟩]
@[simp] def c_fpref05_Equal_r1 : List AOper :=
  [⟨(some 5), (.faddr 6 (.t 2)), none, false⟩,
   ⟨(some 6), (.load false 1 (.t 5)), none, false⟩,
   ⟨(some 7), (.faddr 6 (.t 3)), none, false⟩,
   ⟨(some 8), (.load false 1 (.t 7)), none, false⟩,
   ⟨(some 9), (.bin .bool .eql (.t 6) (.t 8)), none, false⟩,
   ⟨(some 10), (.mv (.t 9)), none, false⟩,
   ⟨(some 11), (.faddr 0 (.t 2)), (some (10, true)), false⟩,
   ⟨(some 12), (.load true 3 (.t 11)), (some (10, true)), false⟩,
   ⟨(some 13), (.faddr 0 (.t 3)), (some (10, true)), false⟩,
   ⟨(some 14), (.load true 3 (.t 13)), (some (10, true)), false⟩,
   ⟨(some 15), (.call (.f 23) [(.t 12), (.t 14)]), (some (10, true)), false⟩,
   ⟨(some 16), (.pick (.t 10) (.t 15) (.c (.bool false))), none, false⟩,
   ⟨(some 17), (.mv (.t 16)), none, false⟩,
   ⟨(some 18), (.faddr 3 (.t 2)), (some (17, true)), false⟩,
   ⟨(some 19), (.load true 3 (.t 18)), (some (17, true)), false⟩,
   ⟨(some 20), (.faddr 3 (.t 3)), (some (17, true)), false⟩,
   ⟨(some 21), (.load true 3 (.t 20)), (some (17, true)), false⟩,
   ⟨(some 22), (.call (.f 23) [(.t 19), (.t 21)]), (some (17, true)), false⟩,
   ⟨(some 23), (.pick (.t 17) (.t 22) (.c (.bool false))), none, false⟩,
   ⟨(some 4), (.mv (.t 23)), none, false⟩]
@[simp] def c_fpref05_Equal : AFn := ⟨[(.tmp 4)],
  (.seq (.region false c_fpref05_Equal_r0) (.seq (.region false c_fpref05_Equal_r1) .ret)),
  false, false⟩

/- pipe_last -/
@[simp] def c_pipe_last_r0 : List AOper :=
  [⟨(some 1), (.box 2 (.t 0)), none, false⟩,
   ⟨(some 2), (.new 8 (.agg [(.bool false), .nil, (.int .i64 0), (.bool false), .nil, (.int .i64 0), .nil, .nil])), none, false⟩]
@[simp] def c_pipe_last_r1 : List AOper :=
  [⟨(some 3), (.faddr 1 (.t 1)), none, false⟩,
   ⟨(some 4), (.load false 1 (.t 3)), none, false⟩,
   ⟨(some 5), (.faddr 1 (.t 1)), none, false⟩,
   ⟨(some 6), (.load false 1 (.t 5)), none, false⟩,
   ⟨(some 7), (.len (.t 6)), none, false⟩,
   ⟨(some 8), (.bin .num .sub (.t 7) (.c (.int .i64 1))), none, false⟩,
   ⟨(some 9), (.iaddr 8 (.t 4) (.t 8)), none, false⟩,
   ⟨(some 10), (.load true 8 (.t 9)), none, false⟩,
   ⟨none, (.store 8 (.t 2) (.t 10)), none, false⟩]
@[simp] def c_pipe_last : AFn := ⟨[(.cell 2 true 8)],
  (.seq (.region false c_pipe_last_r0) (.seq (.region false c_pipe_last_r1) .ret)),
  false, false⟩

/- pipe_All_1 -/
@[simp] def c_pipe_All_1_r0 : List AOper :=
  [⟨(some 5), (.load true 2 (.t 1)), none, false⟩,
   ⟨(some 6), (.call (.f 17) [(.t 5)]), none, false⟩,
   ⟨(some 7), (.un .not (.t 6)), none, false⟩]
@[simp] def c_pipe_All_1_r1 : List AOper :=
  [⟨(some 8), (.load true 2 (.t 1)), none, false⟩,
   ⟨(some 9), (.call (.f 45) [(.t 8)]), none, false⟩,
   ⟨(some 10), (.field false 1 1 (.t 9)), none, false⟩,
   ⟨(some 11), (.len (.t 10)), none, false⟩,
   ⟨(some 12), (.mv (.c (.int .i64 0))), none, false⟩]
@[simp] def c_pipe_All_1_r2 : List AOper :=
  [⟨(some 13), (.bin .num .lss (.t 12) (.t 11)), none, false⟩]
@[simp] def c_pipe_All_1_r3 : List AOper :=
  [⟨(some 14), (.mv (.t 12)), none, false⟩,
   ⟨(some 15), (.iaddr 8 (.t 10) (.t 12)), none, false⟩,
   ⟨(some 16), (.load true 8 (.t 15)), none, false⟩,
   ⟨(some 4), (.new 8 (.agg [(.bool false), .nil, (.int .i64 0), (.bool false), .nil, (.int .i64 0), .nil, .nil])), none, false⟩,
   ⟨(some 3), (.mv (.t 14)), none, false⟩,
   ⟨none, (.store 8 (.t 4) (.t 16)), none, false⟩]
@[simp] def c_pipe_All_1_r4 : List AOper :=
  [⟨(some 17), (.mv (.t 0)), none, false⟩,
   ⟨(some 18), (.mv (.t 3)), none, false⟩,
   ⟨(some 19), (.load true 8 (.t 4)), none, false⟩,
   ⟨(some 20), (.call (.t 17) [(.t 18), (.t 19)]), none, false⟩,
   ⟨(some 21), (.un .not (.t 20)), none, false⟩]
@[simp] def c_pipe_All_1_r5 : List AOper :=
  [⟨(some 22), (.bin .num .add (.t 12) (.c (.int .i64 1))), none, false⟩,
   ⟨(some 12), (.mv (.t 22)), none, false⟩]
def c_pipe_All_1_l0 : AC := (.seq (.region false c_pipe_All_1_r2) (.seq (.cond (.t 13) .skip (.exit 0)) (.seq (.block 1 (.seq (.region false c_pipe_All_1_r3) (.seq (.region false c_pipe_All_1_r4) (.cond (.t 21) .ret .skip)))) (.region false c_pipe_All_1_r5))))
@[simp] def c_pipe_All_1 : AFn := ⟨[],
  (.seq (.seq (.region false c_pipe_All_1_r0) (.cond (.t 7) .ret .skip)) (.seq (.region false c_pipe_All_1_r1) (.block 0 (.loop c_pipe_All_1_l0)))),
  false, false⟩

/- fpref02_compare -/
@[simp] def c_fpref02_compare_r0 : List AOper :=
  [⟨(some 4), (.mv (.c (.int .i64 0))), none, false⟩]
@[simp] def c_fpref02_compare_r1 : List AOper :=
  [⟨(some 6), (.mv (.t 0)), none, false⟩,
   ⟨(some 7), (.len (.t 6)), none, false⟩,
   ⟨(some 8), (.mv (.t 1)), none, false⟩,
   ⟨(some 9), (.len (.t 8)), none, false⟩,
   ⟨(some 10), (.bin .num .neq (.t 7) (.t 9)), none, false⟩]
@[simp] def c_fpref02_compare_r2 : List AOper :=
  [⟨(some 11), (.mv (.t 0)), none, false⟩,
   ⟨(some 12), (.len (.t 11)), none, false⟩,
   ⟨(some 13), (.mv (.t 1)), none, false⟩,
   ⟨(some 14), (.len (.t 13)), none, false⟩,
   ⟨(some 15), (.bin .num .lss (.t 12) (.t 14)), none, false⟩]
@[simp] def c_fpref02_compare_r3 : List AOper :=
  [⟨(some 4), (.mv (.c (.int .i64 (-1)))), none, false⟩]
@[simp] def c_fpref02_compare_r4 : List AOper :=
  [⟨(some 4), (.mv (.c (.int .i64 1))), none, false⟩]
@[simp] def c_fpref02_compare_r5 : List AOper :=
  [⟨(some 16), (.mv (.t 0)), none, false⟩,
   ⟨(some 17), (.len (.t 16)), none, false⟩,
   ⟨(some 18), (.bin .num .sub (.t 17) (.c (.int .i64 1))), none, false⟩,
   ⟨(some 5), (.mv (.t 18)), none, false⟩]
@[simp] def c_fpref02_compare_r6 : List AOper :=
  [⟨(some 19), (.mv (.t 5)), none, false⟩,
   ⟨(some 20), (.bin .num .geq (.t 19) (.c (.int .i64 0))), none, false⟩]
@[simp] def c_fpref02_compare_r7 : List AOper :=
  [⟨(some 23), (.mv (.t 0)), none, false⟩,
   ⟨(some 24), (.mv (.t 5)), none, false⟩,
   ⟨(some 25), (.iaddr 1 (.t 23) (.t 24)), none, false⟩,
   ⟨(some 26), (.load false 1 (.t 25)), none, false⟩,
   ⟨(some 27), (.mv (.t 1)), none, false⟩,
   ⟨(some 28), (.mv (.t 5)), none, false⟩,
   ⟨(some 29), (.iaddr 1 (.t 27) (.t 28)), none, false⟩,
   ⟨(some 30), (.load false 1 (.t 29)), none, false⟩,
   ⟨(some 31), (.bin .num .lss (.t 26) (.t 30)), none, false⟩]
@[simp] def c_fpref02_compare_r8 : List AOper :=
  [⟨(some 4), (.mv (.c (.int .i64 (-1)))), none, false⟩]
@[simp] def c_fpref02_compare_r9 : List AOper :=
  [⟨(some 32), (.mv (.t 0)), none, false⟩,
   ⟨(some 33), (.mv (.t 5)), none, false⟩,
   ⟨(some 34), (.iaddr 1 (.t 32) (.t 33)), none, false⟩,
   ⟨(some 35), (.load false 1 (.t 34)), none, false⟩,
   ⟨(some 36), (.mv (.t 1)), none, false⟩,
   ⟨(some 37), (.mv (.t 5)), none, false⟩,
   ⟨(some 38), (.iaddr 1 (.t 36) (.t 37)), none, false⟩,
   ⟨(some 39), (.load false 1 (.t 38)), none, false⟩,
   ⟨(some 40), (.bin .num .gtr (.t 35) (.t 39)), none, false⟩]
@[simp] def c_fpref02_compare_r10 : List AOper :=
  [⟨(some 4), (.mv (.c (.int .i64 1))), none, false⟩]
@[simp] def c_fpref02_compare_r11 : List AOper :=
  [⟨(some 21), (.mv (.t 5)), none, false⟩,
   ⟨(some 22), (.bin .num .sub (.t 21) (.c (.int .i64 1))), none, false⟩,
   ⟨(some 5), (.mv (.t 22)), none, false⟩]
def c_fpref02_compare_l0 : AC := (.seq (.seq (.region false c_fpref02_compare_r6) (.cond (.t 20) .skip (.exit 0))) (.seq (.block 1 (.seq (.seq (.region true c_fpref02_compare_r7) (.cond (.t 31) (.seq (.region false c_fpref02_compare_r8) .ret) .skip)) (.seq (.region true c_fpref02_compare_r9) (.cond (.t 40) (.seq (.region false c_fpref02_compare_r10) .ret) .skip)))) (.region false c_fpref02_compare_r11)))
@[simp] def c_fpref02_compare_r12 : List AOper :=
  [⟨(some 4), (.mv (.c (.int .i64 0))), none, false⟩]
@[simp] def c_fpref02_compare : AFn := ⟨[(.tmp 4)],
  (.seq (.region false c_fpref02_compare_r0) (.seq (.seq (.region false c_fpref02_compare_r1) (.cond (.t 10) (.seq (.seq (.region false c_fpref02_compare_r2) (.cond (.t 15) (.seq (.region false c_fpref02_compare_r3) .ret) .skip)) (.seq (.region false c_fpref02_compare_r4) .ret)) .skip)) (.seq (.seq (.region false c_fpref02_compare_r5) (.block 0 (.loop c_fpref02_compare_l0))) (.seq (.region false c_fpref02_compare_r12) .ret)))),
  false, false⟩

/- pipe_begin -/
@[simp] def c_pipe_begin_r0 : List AOper :=
  [⟨(some 1), (.box 2 (.t 0)), none, false⟩,
   ⟨(some 2), (.new 3 (.agg [(.bool false), .nil, (.int .i64 0)])), none, false⟩]
@[simp] def c_pipe_begin_r1 : List AOper :=
  [⟨(some 3), (.faddr 1 (.t 1)), none, false⟩,
   ⟨(some 4), (.load false 1 (.t 3)), none, false⟩,
   ⟨(some 5), (.iaddr 8 (.t 4) (.c (.int .i64 0))), none, false⟩,
   ⟨(some 6), (.faddr 0 (.t 5)), none, false⟩,
   ⟨(some 7), (.load true 3 (.t 6)), none, false⟩,
   ⟨none, (.store 3 (.t 2) (.t 7)), none, false⟩]
@[simp] def c_pipe_begin : AFn := ⟨[(.cell 2 true 3)],
  (.seq (.region false c_pipe_begin_r0) (.seq (.region false c_pipe_begin_r1) .ret)),
  false, false⟩

/- fpref05_Inside -/
@[simp] def c_fpref05_Inside_r0 : List AOper :=
  [⟨(some 2), (.box 7 (.t 0)), none, false⟩,
   ⟨(some 3), (.box 7 (.t 1)), none, false⟩,
   ⟨(some 4), (.mv (.c (.bool false))), none, false⟩]
@[simp] def c_fpref05_Inside_r1 : List AOper :=
  [⟨(some 5), (.load true 7 (.t 2)), none, false⟩,
   ⟨(some 6), (.call (.f 70) [(.t 5)]), none, false⟩,
   ⟨(some 7), (.un .not (.t 6)), none, false⟩,
   ⟨(some 8), (.mv (.t 7)), none, false⟩,
   ⟨(some 9), (.load true 7 (.t 3)), (some (8, false)), false⟩,
   ⟨(some 10), (.call (.f 70) [(.t 9)]), (some (8, false)), false⟩,
   ⟨(some 11), (.un .not (.t 10)), (some (8, false)), false⟩,
   ⟨(some 12), (.pick (.t 8) (.c (.bool true)) (.t 11)), none, false⟩,
   ⟨(some 13), (.mv (.t 12)), none, false⟩,
   ⟨(some 14), (.faddr 6 (.t 2)), (some (13, false)), false⟩,
   ⟨(some 15), (.load false 1 (.t 14)), (some (13, false)), false⟩,
   ⟨(some 16), (.pick (.t 13) (.c (.bool true)) (.t 15)), none, false⟩]
@[simp] def c_fpref05_Inside_r2 : List AOper :=
  [⟨(some 17), (.load true 7 (.t 2)), none, false⟩,
   ⟨(some 18), (.call (.f 70) [(.t 17)]), none, false⟩,
   ⟨(some 19), (.mv (.t 18)), none, false⟩,
   ⟨(some 20), (.load true 7 (.t 3)), (some (19, true)), false⟩,
   ⟨(some 21), (.call (.f 70) [(.t 20)]), (some (19, true)), false⟩,
   ⟨(some 22), (.pick (.t 19) (.t 21) (.c (.bool false))), none, false⟩,
   ⟨(some 23), (.mv (.t 22)), none, false⟩,
   ⟨(some 24), (.faddr 6 (.t 3)), (some (23, true)), false⟩,
   ⟨(some 25), (.load false 1 (.t 24)), (some (23, true)), false⟩,
   ⟨(some 26), (.pick (.t 23) (.t 25) (.c (.bool false))), none, false⟩,
   ⟨(some 4), (.mv (.t 26)), none, false⟩]
@[simp] def c_fpref05_Inside_r3 : List AOper :=
  [⟨(some 27), (.faddr 6 (.t 3)), none, false⟩,
   ⟨(some 28), (.load false 1 (.t 27)), none, false⟩,
   ⟨(some 29), (.mv (.t 28)), none, false⟩,
   ⟨(some 30), (.faddr 0 (.t 3)), (some (29, false)), false⟩,
   ⟨(some 31), (.load true 3 (.t 30)), (some (29, false)), false⟩,
   ⟨(some 32), (.faddr 0 (.t 2)), (some (29, false)), false⟩,
   ⟨(some 33), (.load true 3 (.t 32)), (some (29, false)), false⟩,
   ⟨(some 34), (.call (.f 18) [(.t 31), (.t 33)]), (some (29, false)), false⟩,
   ⟨(some 35), (.bin .num .leq (.t 34) (.c (.int .i64 0))), (some (29, false)), false⟩,
   ⟨(some 36), (.mv (.t 35)), (some (29, false)), false⟩,
   ⟨(some 37), (.faddr 3 (.t 2)), (some (36, true)), false⟩,
   ⟨(some 38), (.load true 3 (.t 37)), (some (36, true)), false⟩,
   ⟨(some 39), (.faddr 3 (.t 3)), (some (36, true)), false⟩,
   ⟨(some 40), (.load true 3 (.t 39)), (some (36, true)), false⟩,
   ⟨(some 41), (.call (.f 18) [(.t 38), (.t 40)]), (some (36, true)), false⟩,
   ⟨(some 42), (.bin .num .leq (.t 41) (.c (.int .i64 0))), (some (36, true)), false⟩,
   ⟨(some 43), (.pick (.t 36) (.t 42) (.c (.bool false))), (some (29, false)), false⟩,
   ⟨(some 44), (.pick (.t 29) (.c (.bool true)) (.t 43)), none, false⟩,
   ⟨(some 4), (.mv (.t 44)), none, false⟩]
@[simp] def c_fpref05_Inside : AFn := ⟨[(.tmp 4)],
  (.seq (.region false c_fpref05_Inside_r0) (.seq (.seq (.region false c_fpref05_Inside_r1) (.cond (.t 16) (.seq (.region false c_fpref05_Inside_r2) .ret) .skip)) (.seq (.region false c_fpref05_Inside_r3) .ret))),
  false, false⟩

/- slices_Grow_Segment -/
@[simp] def c_slices_Grow_Segment_r0 : List AOper :=
  [⟨(some 4), (.mv (.c .nil)), none, false⟩]
@[simp] def c_slices_Grow_Segment_r1 : List AOper :=
  [⟨(some 5), (.mv (.t 1)), none, false⟩,
   ⟨(some 6), (.bin .num .lss (.t 5) (.c (.int .i64 0))), none, false⟩]
@[simp] def c_slices_Grow_Segment_r2 : List AOper :=
  [⟨(some 8), (.mv (.t 1)), none, false⟩,
   ⟨(some 9), (.mv (.t 0)), none, false⟩,
   ⟨(some 10), (.capn (.t 9)), none, false⟩,
   ⟨(some 11), (.mv (.t 0)), none, false⟩,
   ⟨(some 12), (.len (.t 11)), none, false⟩,
   ⟨(some 13), (.bin .num .sub (.t 10) (.t 12)), none, false⟩,
   ⟨(some 14), (.bin .num .sub (.t 8) (.t 13)), none, false⟩,
   ⟨(some 1), (.mv (.t 14)), none, false⟩]
@[simp] def c_slices_Grow_Segment_r3 : List AOper :=
  [⟨(some 15), (.mv (.t 1)), none, false⟩,
   ⟨(some 16), (.bin .num .gtr (.t 15) (.c (.int .i64 0))), none, false⟩]
@[simp] def c_slices_Grow_Segment_r4 : List AOper :=
  [⟨(some 17), (.mv (.t 0)), none, false⟩,
   ⟨(some 18), (.mv (.t 0)), none, false⟩,
   ⟨(some 19), (.capn (.t 18)), none, false⟩,
   ⟨(some 20), (.slice 8 (.t 17) none (some (.t 19)) none), none, false⟩,
   ⟨(some 21), (.mv (.t 1)), none, false⟩,
   ⟨(some 22), (.appendZ 8 128 (.agg [(.bool false), .nil, (.int .i64 0), (.bool false), .nil, (.int .i64 0), .nil, .nil]) (.t 20) (.t 21)), none, false⟩,
   ⟨(some 23), (.mv (.t 0)), none, false⟩,
   ⟨(some 24), (.len (.t 23)), none, false⟩,
   ⟨(some 25), (.slice 8 (.t 22) none (some (.t 24)) none), none, false⟩,
   ⟨(some 0), (.mv (.t 25)), none, false⟩]
@[simp] def c_slices_Grow_Segment_r5 : List AOper :=
  [⟨(some 26), (.mv (.t 0)), none, false⟩,
   ⟨(some 4), (.mv (.t 26)), none, false⟩]
@[simp] def c_slices_Grow_Segment : AFn := ⟨[(.tmp 4)],
  (.seq (.region false c_slices_Grow_Segment_r0) (.seq (.seq (.region false c_slices_Grow_Segment_r1) (.cond (.t 6) .stop .skip)) (.seq (.seq (.region false c_slices_Grow_Segment_r2) (.seq (.region false c_slices_Grow_Segment_r3) (.cond (.t 16) (.region false c_slices_Grow_Segment_r4) .skip))) (.seq (.region false c_slices_Grow_Segment_r5) .ret)))),
  true, true⟩

/- slices_ContainsFunc_Interval -/
@[simp] def c_slices_ContainsFunc_Interval_r0 : List AOper :=
  [⟨(some 4), (.mv (.c (.bool false))), none, false⟩]
@[simp] def c_slices_ContainsFunc_Interval_r1 : List AOper :=
  [⟨(some 5), (.mv (.t 0)), none, false⟩,
   ⟨(some 6), (.mv (.t 1)), none, false⟩,
   ⟨(some 7), (.call (.f 89) [(.t 5), (.t 6)]), none, false⟩,
   ⟨(some 8), (.bin .num .geq (.t 7) (.c (.int .i64 0))), none, false⟩,
   ⟨(some 4), (.mv (.t 8)), none, false⟩]
@[simp] def c_slices_ContainsFunc_Interval : AFn := ⟨[(.tmp 4)],
  (.seq (.region false c_slices_ContainsFunc_Interval_r0) (.seq (.region false c_slices_ContainsFunc_Interval_r1) .ret)),
  false, false⟩

/- fplaw37_wide_1 -/
@[simp] def c_fplaw37_wide_1_r0 : List AOper :=
  [⟨(some 1), (.box 7 (.t 0)), none, false⟩,
   ⟨(some 2), (.mv (.c (.bool false))), none, false⟩]
@[simp] def c_fplaw37_wide_1_r1 : List AOper :=
  [⟨(some 3), (.faddr 0 (.t 1)), none, false⟩,
   ⟨(some 4), (.load true 3 (.t 3)), none, false⟩,
   ⟨(some 5), (.call (.f 9) [(.t 4)]), none, false⟩,
   ⟨(some 6), (.mv (.t 5)), none, false⟩,
   ⟨(some 7), (.faddr 3 (.t 1)), (some (6, false)), false⟩,
   ⟨(some 8), (.load true 3 (.t 7)), (some (6, false)), false⟩,
   ⟨(some 9), (.call (.f 9) [(.t 8)]), (some (6, false)), false⟩,
   ⟨(some 10), (.pick (.t 6) (.c (.bool true)) (.t 9)), none, false⟩,
   ⟨(some 2), (.mv (.t 10)), none, false⟩]
@[simp] def c_fplaw37_wide_1 : AFn := ⟨[(.tmp 2)],
  (.seq (.region false c_fplaw37_wide_1_r0) (.seq (.region false c_fplaw37_wide_1_r1) .ret)),
  false, false⟩

/- box_Meet -/
@[simp] def c_box_Meet_r0 : List AOper :=
  [⟨(some 4), (.mv (.c .nil)), none, false⟩,
   ⟨(some 5), (.mv (.c (.bool false))), none, false⟩]
@[simp] def c_box_Meet_r1 : List AOper :=
  [⟨(some 10), (.mv (.t 0)), none, false⟩,
   ⟨(some 11), (.mv (.t 1)), none, false⟩,
   ⟨(some 12), (.call (.f 81) [(.t 10), (.t 11)]), none, false⟩,
   ⟨(some 13), (.un .not (.t 12)), none, false⟩]
@[simp] def c_box_Meet_r2 : List AOper :=
  [⟨(some 4), (.mv (.c .nil)), none, false⟩,
   ⟨(some 5), (.mv (.c (.bool false))), none, false⟩]
@[simp] def c_box_Meet_r3 : List AOper :=
  [⟨(some 6), (.mv (.c .nil)), none, false⟩]
@[simp] def c_box_Meet_r4 : List AOper :=
  [⟨(some 14), (.mv (.t 0)), none, false⟩,
   ⟨(some 15), (.len (.t 14)), none, false⟩,
   ⟨(some 16), (.mv (.c (.int .i64 0))), none, false⟩]
@[simp] def c_box_Meet_r5 : List AOper :=
  [⟨(some 17), (.bin .num .lss (.t 16) (.t 15)), none, false⟩]
@[simp] def c_box_Meet_r6 : List AOper :=
  [⟨(some 18), (.mv (.t 16)), none, false⟩,
   ⟨(some 7), (.mv (.t 18)), none, false⟩]
@[simp] def c_box_Meet_r7 : List AOper :=
  [⟨(some 20), (.mv (.t 0)), none, false⟩,
   ⟨(some 21), (.mv (.t 7)), none, false⟩,
   ⟨(some 22), (.iaddr 7 (.t 20) (.t 21)), none, false⟩,
   ⟨(some 23), (.load true 7 (.t 22)), none, false⟩,
   ⟨(some 24), (.mv (.t 1)), none, false⟩,
   ⟨(some 25), (.mv (.t 7)), none, false⟩,
   ⟨(some 26), (.iaddr 7 (.t 24) (.t 25)), none, false⟩,
   ⟨(some 27), (.load true 7 (.t 26)), none, false⟩,
   ⟨(some 28), (.call (.f 90) [(.t 23), (.t 27)]), none, false⟩,
   ⟨(some 19), (.mv (.t 28)), none, false⟩,
   ⟨(some 29), (.extract 0 (.t 19)), none, false⟩,
   ⟨(some 30), (.extract 1 (.t 19)), none, false⟩,
   ⟨(some 8), (.new 7 (.agg [(.bool false), .nil, (.int .i64 0), (.bool false), .nil, (.int .i64 0), (.bool false)])), none, false⟩,
   ⟨none, (.store 7 (.t 8) (.t 29)), none, true⟩,
   ⟨(some 9), (.mv (.t 30)), none, false⟩]
@[simp] def c_box_Meet_r8 : List AOper :=
  [⟨(some 31), (.mv (.t 9)), none, false⟩,
   ⟨(some 32), (.un .not (.t 31)), none, false⟩]
@[simp] def c_box_Meet_r9 : List AOper :=
  [⟨(some 4), (.mv (.c .nil)), none, false⟩,
   ⟨(some 5), (.mv (.c (.bool false))), none, false⟩]
@[simp] def c_box_Meet_r10 : List AOper :=
  [⟨(some 33), (.mv (.t 6)), none, false⟩,
   ⟨(some 34), (.load true 7 (.t 8)), none, false⟩,
   ⟨(some 35), (.bslice 7 1 (.agg [(.bool false), .nil, (.int .i64 0), (.bool false), .nil, (.int .i64 0), (.bool false)]) [(0, (.t 34))]), none, false⟩,
   ⟨(some 36), (.append 7 88 (.t 33) (.t 35)), none, false⟩,
   ⟨(some 6), (.mv (.t 36)), none, false⟩]
@[simp] def c_box_Meet_r11 : List AOper :=
  [⟨(some 37), (.bin .num .add (.t 16) (.c (.int .i64 1))), none, false⟩,
   ⟨(some 16), (.mv (.t 37)), none, false⟩]
def c_box_Meet_l0 : AC := (.seq (.region false c_box_Meet_r5) (.seq (.cond (.t 17) .skip (.exit 0)) (.seq (.block 1 (.seq (.region false c_box_Meet_r6) (.seq (.region true c_box_Meet_r7) (.seq (.seq (.region false c_box_Meet_r8) (.cond (.t 32) (.seq (.region false c_box_Meet_r9) .ret) .skip)) (.region false c_box_Meet_r10))))) (.region false c_box_Meet_r11))))
@[simp] def c_box_Meet_r12 : List AOper :=
  [⟨(some 38), (.mv (.t 6)), none, false⟩,
   ⟨(some 4), (.mv (.t 38)), none, false⟩,
   ⟨(some 5), (.mv (.c (.bool true))), none, false⟩]
@[simp] def c_box_Meet : AFn := ⟨[(.tmp 4), (.tmp 5)],
  (.seq (.region false c_box_Meet_r0) (.seq (.seq (.region false c_box_Meet_r1) (.cond (.t 13) (.seq (.region false c_box_Meet_r2) .ret) .skip)) (.seq (.region false c_box_Meet_r3) (.seq (.seq (.region false c_box_Meet_r4) (.block 0 (.loop c_box_Meet_l0))) (.seq (.region false c_box_Meet_r12) .ret))))),
  false, false⟩

/- fpref05_Valid -/
@[simp] def c_fpref05_Valid_r0 : List AOper :=
  [⟨(some 1), (.box 7 (.t 0)), none, false⟩,
   ⟨(some 2), (.mv (.c (.bool false))), none, false⟩]
@[simp] def c_fpref05_Valid_r1 : List AOper :=
  [⟨(some 3), (.faddr 6 (.t 1)), none, false⟩,
   ⟨(some 4), (.load false 1 (.t 3)), none, false⟩]
@[simp] def c_fpref05_Valid_r2 : List AOper :=
  [⟨(some 5), (.faddr 0 (.t 1)), none, false⟩,
   ⟨(some 6), (.load true 3 (.t 5)), none, false⟩,
   ⟨(some 7), (.call (.f 91) [(.t 6)]), none, false⟩,
   ⟨(some 8), (.mv (.t 7)), none, false⟩,
   ⟨(some 9), (.faddr 3 (.t 1)), (some (8, true)), false⟩,
   ⟨(some 10), (.load true 3 (.t 9)), (some (8, true)), false⟩,
   ⟨(some 11), (.call (.f 91) [(.t 10)]), (some (8, true)), false⟩,
   ⟨(some 12), (.pick (.t 8) (.t 11) (.c (.bool false))), none, false⟩,
   ⟨(some 2), (.mv (.t 12)), none, false⟩]
@[simp] def c_fpref05_Valid_r3 : List AOper :=
  [⟨(some 13), (.faddr 0 (.t 1)), none, false⟩,
   ⟨(some 14), (.load true 3 (.t 13)), none, false⟩,
   ⟨(some 15), (.call (.f 12) [(.t 14)]), none, false⟩,
   ⟨(some 16), (.mv (.t 15)), none, false⟩,
   ⟨(some 17), (.faddr 3 (.t 1)), (some (16, true)), false⟩,
   ⟨(some 18), (.load true 3 (.t 17)), (some (16, true)), false⟩,
   ⟨(some 19), (.call (.f 12) [(.t 18)]), (some (16, true)), false⟩,
   ⟨(some 20), (.pick (.t 16) (.t 19) (.c (.bool false))), none, false⟩,
   ⟨(some 21), (.mv (.t 20)), none, false⟩,
   ⟨(some 22), (.faddr 0 (.t 1)), (some (21, true)), false⟩,
   ⟨(some 23), (.load true 3 (.t 22)), (some (21, true)), false⟩,
   ⟨(some 24), (.faddr 3 (.t 1)), (some (21, true)), false⟩,
   ⟨(some 25), (.load true 3 (.t 24)), (some (21, true)), false⟩,
   ⟨(some 26), (.call (.f 18) [(.t 23), (.t 25)]), (some (21, true)), false⟩,
   ⟨(some 27), (.bin .num .leq (.t 26) (.c (.int .i64 0))), (some (21, true)), false⟩,
   ⟨(some 28), (.pick (.t 21) (.t 27) (.c (.bool false))), none, false⟩,
   ⟨(some 2), (.mv (.t 28)), none, false⟩]
@[simp] def c_fpref05_Valid : AFn := ⟨[(.tmp 2)],
  (.seq (.region false c_fpref05_Valid_r0) (.seq (.seq (.region false c_fpref05_Valid_r1) (.cond (.t 4) (.seq (.region false c_fpref05_Valid_r2) .ret) .skip)) (.seq (.region false c_fpref05_Valid_r3) .ret))),
  false, false⟩

/- fpref05_Meet -/
@[simp] def c_fpref05_Meet_r0 : List AOper :=
  [⟨(some 2), (.box 7 (.t 0)), none, false⟩,
   ⟨(some 3), (.box 7 (.t 1)), none, false⟩,
   ⟨(some 4), (.new 7 (.agg [(.bool false), .nil, (.int .i64 0), (.bool false), .nil, (.int .i64 0), (.bool false)])), none, false⟩,
   ⟨(some 5), (.mv (.c (.bool false))), none, false⟩]
@[simp] def c_fpref05_Meet_r1 : List AOper :=
  [⟨(some 7), (.load true 7 (.t 2)), none, false⟩,
   ⟨(some 8), (.call (.f 70) [(.t 7)]), none, false⟩,
   ⟨(some 9), (.un .not (.t 8)), none, false⟩,
   ⟨(some 10), (.mv (.t 9)), none, false⟩,
   ⟨(some 11), (.load true 7 (.t 3)), (some (10, false)), false⟩,
   ⟨(some 12), (.call (.f 70) [(.t 11)]), (some (10, false)), false⟩,
   ⟨(some 13), (.un .not (.t 12)), (some (10, false)), false⟩,
   ⟨(some 14), (.pick (.t 10) (.c (.bool true)) (.t 13)), none, false⟩]
@[simp] def c_fpref05_Meet_r2 : List AOper :=
  [⟨(some 15), (.build [(.bool false), .nil, (.int .i64 0), (.bool false), .nil, (.int .i64 0), (.bool false)] []), none, false⟩,
   ⟨none, (.store 7 (.t 4) (.t 15)), none, false⟩,
   ⟨(some 5), (.mv (.c (.bool false))), none, false⟩]
@[simp] def c_fpref05_Meet_r3 : List AOper :=
  [⟨(some 16), (.faddr 6 (.t 2)), none, false⟩,
   ⟨(some 17), (.load false 1 (.t 16)), none, false⟩]
@[simp] def c_fpref05_Meet_r4 : List AOper :=
  [⟨(some 18), (.load true 7 (.t 3)), none, false⟩,
   ⟨none, (.store 7 (.t 4) (.t 18)), none, false⟩,
   ⟨(some 5), (.mv (.c (.bool true))), none, false⟩]
@[simp] def c_fpref05_Meet_r5 : List AOper :=
  [⟨(some 19), (.faddr 6 (.t 3)), none, false⟩,
   ⟨(some 20), (.load false 1 (.t 19)), none, false⟩]
@[simp] def c_fpref05_Meet_r6 : List AOper :=
  [⟨(some 21), (.load true 7 (.t 2)), none, false⟩,
   ⟨none, (.store 7 (.t 4) (.t 21)), none, false⟩,
   ⟨(some 5), (.mv (.c (.bool true))), none, false⟩]
@[simp] def c_fpref05_Meet_r7 : List AOper :=
  [⟨(some 22), (.faddr 0 (.t 2)), none, false⟩,
   ⟨(some 23), (.load true 3 (.t 22)), none, false⟩,
   ⟨(some 24), (.faddr 0 (.t 3)), none, false⟩,
   ⟨(some 25), (.load true 3 (.t 24)), none, false⟩,
   ⟨(some 26), (.call (.f 92) [(.t 23), (.t 25)]), none, false⟩,
   ⟨(some 27), (.faddr 3 (.t 2)), none, false⟩,
   ⟨(some 28), (.load true 3 (.t 27)), none, false⟩,
   ⟨(some 29), (.faddr 3 (.t 3)), none, false⟩,
   ⟨(some 30), (.load true 3 (.t 29)), none, false⟩,
   ⟨(some 31), (.call (.f 93) [(.t 28), (.t 30)]), none, false⟩,
   ⟨(some 32), (.build [(.bool false), .nil, (.int .i64 0), (.bool false), .nil, (.int .i64 0), (.bool false)] [(0, 3, (.t 26)), (3, 3, (.t 31))]), none, false⟩,
   ⟨(some 6), (.new 7 (.agg [(.bool false), .nil, (.int .i64 0), (.bool false), .nil, (.int .i64 0), (.bool false)])), none, false⟩,
   ⟨none, (.store 7 (.t 6) (.t 32)), none, true⟩]
@[simp] def c_fpref05_Meet_r8 : List AOper :=
  [⟨(some 33), (.faddr 0 (.t 6)), none, false⟩,
   ⟨(some 34), (.load true 3 (.t 33)), none, false⟩,
   ⟨(some 35), (.faddr 3 (.t 6)), none, false⟩,
   ⟨(some 36), (.load true 3 (.t 35)), none, false⟩,
   ⟨(some 37), (.call (.f 18) [(.t 34), (.t 36)]), none, false⟩,
   ⟨(some 38), (.bin .num .gtr (.t 37) (.c (.int .i64 0))), none, false⟩]
@[simp] def c_fpref05_Meet_r9 : List AOper :=
  [⟨(some 39), (.build [(.bool false), .nil, (.int .i64 0), (.bool false), .nil, (.int .i64 0), (.bool false)] []), none, false⟩,
   ⟨none, (.store 7 (.t 4) (.t 39)), none, false⟩,
   ⟨(some 5), (.mv (.c (.bool false))), none, false⟩]
@[simp] def c_fpref05_Meet_r10 : List AOper :=
  [⟨(some 40), (.load true 7 (.t 6)), none, false⟩,
   ⟨none, (.store 7 (.t 4) (.t 40)), none, false⟩,
   ⟨(some 5), (.mv (.c (.bool true))), none, false⟩]
@[simp] def c_fpref05_Meet : AFn := ⟨[(.cell 4 true 7), (.tmp 5)],
  (.seq (.region false c_fpref05_Meet_r0) (.seq (.seq (.region false c_fpref05_Meet_r1) (.cond (.t 14) (.seq (.region false c_fpref05_Meet_r2) .ret) .skip)) (.seq (.seq (.region false c_fpref05_Meet_r3) (.cond (.t 17) (.seq (.region false c_fpref05_Meet_r4) .ret) .skip)) (.seq (.seq (.region false c_fpref05_Meet_r5) (.cond (.t 20) (.seq (.region false c_fpref05_Meet_r6) .ret) .skip)) (.seq (.region true c_fpref05_Meet_r7) (.seq (.seq (.region false c_fpref05_Meet_r8) (.cond (.t 38) (.seq (.region false c_fpref05_Meet_r9) .ret) .skip)) (.seq (.region false c_fpref05_Meet_r10) .ret))))))),
  false, false⟩

end Go.Abs
