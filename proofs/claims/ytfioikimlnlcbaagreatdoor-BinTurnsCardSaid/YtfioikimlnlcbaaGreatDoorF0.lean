/- Parts of the proof: FpCore, FpStrs, FpLook. -/
import GoSem.Core.Code
import GoSem.Core.View
namespace Go.Abs
inductive V where
 |bool (b:Bool)
 |int (k:IntKind) (n:Int)
 |str (s:ByteArray)
 |sl (l:List V)
 |nil
 |emp
 |ref (b z off len:Nat)
 |ptr (b i off:Nat)
 |eptr (cs:List V)
 |agg (cs:List V)
 |tup (vs:List V)
 |fn (g:Nat) (cap:List V)
 |nilfn
 deriving Inhabited
def V.undef : V:=.tup []
def V.cells : V->List V
 | .agg cs=>cs
 |v=>[v]
def V.cellPure : V->Bool
 | .bool _| .int _ _| .str _| .sl _| .nil| .emp| .eptr _| .fn _ [] | .nilfn=>true
 |_=>false
def V.pure (v:V):Bool:=v.cells.all V.cellPure
def V.lowB (n:Nat):V->Bool
 | .ref b _ _ _=>decide (b<n)
 | .ptr b _ _=>decide (b<n)
 |v=>v.cellPure
def V.isTup : V->Bool
 | .tup _=>true
 |_=>false
def V.isCell : V->Bool
 | .agg _| .tup _=>false
 |_=>true
def V.withCells : V->List V->V
 | .agg _,cs=>.agg cs
 |_,cs=>cs.headD .nil
def V.softC : V->V
 | .nil=>.sl []
 |c=>c
def V.soft : V->V
 | .agg cs=>.agg (cs.map V.softC)
 |v=>v
structure Blk where
 z:Nat
 el:List V
 arr:Bool
 wr:Bool
abbrev Heap :=List (Option Blk)
abbrev Env :=Nat->V
structure Gid where
 fn:FuncId->Option Nat
 tabs:Nat->Option (List V)
instance : CoeFun Gid (fun _=>FuncId->Option Nat):=⟨Gid.fn⟩
inductive X where
 |t (i:Nat)
 |c (v:V)
 |f (g:Nat)
inductive BK where
 |num
 |bool
 |slice
 |ints (n:Nat)
 deriving DecidableEq
inductive AOp where
 |mv (x:X)
 |pick (c a b:X)
 |box (z:Nat) (x:X)
 |new (z:Nat) (v:V)
 |build (zero:List V) (parts:List (Nat × Nat × X))
 |bslice (z len:Nat) (zero:V) (parts:List (Nat × X))
 |plit (z len:Nat) (zero:V) (parts:List (Nat × X))
 |load (ag:Bool) (z:Nat) (x:X)
 |store (z:Nat) (a x:X)
 |sload (ag:Bool) (z t:Nat)
 |storeN (z:Nat) (a x:X) (av:List Nat)
 |bin (k:BK) (op:BinOp) (x y:X)
 |un (op:UnOp) (x:X)
 |conv (k:IntKind) (x:X)
 |mkfn (g:Nat) (caps:List X)
 |mkslice (z bytes:Nat) (zero:V) (l c:X)
 |slice (z:Nat) (x:X) (lo hi mx:Option X)
 |faddr (off:Nat) (x:X)
 |field (ag:Bool) (off z:Nat) (x:X)
 |iaddr (z:Nat) (x i:X)
 |aiaddr (n z:Nat) (x i:X)
 |index (ag:Bool) (n z:Nat) (x i:X)
 |sindex (x i:X)
 |extract (i:Nat) (x:X)
 |len (x:X)
 |lenc (n:Nat) (x:X)
 |capn (x:X)
 |append (z bytes:Nat) (x y:X)
 |appendZ (z bytes:Nat) (zero:V) (x n:X)
 |copy (z:Nat) (x y:X)
 |min (x y:X)
 |max (x y:X)
 |max3 (x y z:X)
 |call (x:X) (args:List X)
structure AOper where
 dst:Option Nat
 op:AOp
 guard:Option (Nat × Bool)
 sync:Bool
inductive AC where
 |skip
 |region (draw:Bool) (ops:List AOper)
 |seq (a b:AC)
 |cond (c:X) (thn els:AC)
 |block (id:Nat) (body:AC)
 |loop (body:AC)
 |scope (body:AC)
 |exit (id:Nat)
 |ret
 |stop
inductive RV where
 |tmp (t:Nat)
 |cell (t:Nat) (ag:Bool) (z:Nat)
structure AFn where
 results:List RV
 body:AC
 own:Bool
 raw:Bool
structure AProg where
 fn:Nat->Option AFn
 prim:Nat->List V->Option V
def getX (E:Env):X->V
 | .t i=>E i
 | .c v=>v
 | .f g=>.fn g []
def upd (E:Env)(d:Nat)(v:V):Env:=fun i=>if i=d then v else E i
def put (E:Env):Option Nat->V->Env
 |none,_=>E
 |some d,v=>upd E d v
def qcq (cs:List V)(off:Nat)(new:List V):List V:=cs.take off++new++cs.drop (off+new.length)
def wrapC (ag:Bool)(z:Nat)(cs:List V):Option V:=
 if ag then(if z<=cs.length then some (.agg (cs.take z))else none)else cs[0]?
def bitsI (op:BinOp)(k:IntKind)(x y:Int):Option Int:=
 let a:=BitVec.ofInt k.bits x
 let b:=BitVec.ofInt k.bits y
 match op with
 | .and=>some (k.wrap (a &&& b).toNat)
 | .or=>some (k.wrap (a |||b).toNat)
 | .xor=>some (k.wrap (a ^^^ b).toNat)
 | .andNot=>some (k.wrap (a &&& ~~~b).toNat)
 |_=>none
def binI (op:BinOp)(k:IntKind)(a b:Int):Option V:=
 match op with
 | .add=>some (.int k (k.wrap (a+b)))
 | .sub=>some (.int k (k.wrap (a-b)))
 | .mul=>some (.int k (k.wrap (a*b)))
 | .quo=>if b=0 then none else some (.int k (k.wrap (a.tdiv b)))
 | .rem=>if b=0 then none else some (.int k (a.tmod b))
 | .and=>(bitsI .and k a b).map (.int k)
 | .or=>(bitsI .or k a b).map (.int k)
 | .xor=>(bitsI .xor k a b).map (.int k)
 | .andNot=>(bitsI .andNot k a b).map (.int k)
 | .eql=>some (.bool (decide (a=b)))
 | .neq=>some (.bool (!decide (a=b)))
 | .lss=>some (.bool (decide (a<b)))
 | .leq=>some (.bool (decide (a<=b)))
 | .gtr=>some (.bool (decide (b<a)))
 | .geq=>some (.bool (decide (b<=a)))
 | .shl| .shr=>none
def qa3 (op:BinOp)(k:IntKind)(a b:Int):Option V:=
 if b<0 then none else
 match op with
 | .shl=>some (.int k (k.wrap (a*2^Nat.min b.toNat k.bits)))
 | .shr=>some (.int k (a.fdiv (2^Nat.min b.toNat k.bits)))
 |_=>none
def V.isNil : V->Option Bool
 | .nil=>some true
 | .sl (_ :: _)=>some false
 | .emp=>some false
 | .ref ..=>some false
 |_=>none
def sameI : List V->List V->Option Bool
 | [],[]=>some true
 | .int k a :: xs,.int k' b :: ys=>if k=k' then(sameI xs ys).map fun r=>decide (a=b)&&r else none
 |_,_=>none
def binV (bk:BK)(op:BinOp)(x y:V):Option V:=
 match bk with
 | .num=>
  match x,y with
  | .int k a,.int k' b=>
   match op with
   | .shl=>qa3 .shl k a b
   | .shr=>qa3 .shr k a b
   |op=>if k=k' then binI op k a b else none
  |_,_=>none
 | .bool=>
  match x,y with
  | .bool a,.bool b=>
   match op with
   | .eql=>some (.bool (a == b))
   | .neq=>some (.bool (!(a == b)))
   |_=>none
  |_,_=>none
 | .slice=>
  match x,y with
  | .nil,y=>y.isNil.bind fun b=>match op with
   | .eql=>some (.bool b)
   | .neq=>some (.bool !b)
   |_=>none
  |x,.nil=>x.isNil.bind fun b=>match op with
   | .eql=>some (.bool b)
   | .neq=>some (.bool !b)
   |_=>none
  |_,_=>none
 | .ints n=>
  match x,y with
  | .agg xs,.agg ys=>if xs.length=n then(sameI xs ys).bind fun b=>match op with
   | .eql=>some (.bool b)
   | .neq=>some (.bool !b)
   |_=>none else none
  |_,_=>none
def unV (op:UnOp)(x:V):Option V:=
 match op,x with
 | .not,.bool b=>some (.bool !b)
 | .neg,.int k n=>some (.int k (k.wrap (0-n)))
 | .xor,.int k n=>(bitsI .xor k (if k.signed then -1 else k.max) n).map (.int k)
 |_,_=>none
def frzC (H:Heap):V->Option (V × Heap)
 | .nil=>some (.sl [],H)
 | .emp=>some (.sl [],H)
 | .ref b z off len=>
  match H[b]? with
  |some (some k)=>
   if k.arr=true/\k.z=z/\off+len<=k.el.length then
    some (.sl ((k.el.drop off).take len),if k.wr then H.set b (some { k with wr:=false })else H)
   else none
  |_=>none
 | .agg _=>none
 | .tup _=>none
 |c=>some (c,H)
def frzCs (H:Heap):List V->Option (List V × Heap)
 | []=>some ([],H)
 |c :: cs=>(frzC H c).bind fun(c',H1)=>(frzCs H1 cs).bind fun(cs',H2)=>some (c' :: cs',H2)
def frzV (H:Heap):V->Option (V × Heap)
 | .agg cs=>(frzCs H cs).bind fun(cs',H1)=>some (.agg cs',H1)
 |v=>frzC H v
def frzVs (H:Heap):List V->Option (List V × Heap)
 | []=>some ([],H)
 |v :: vs=>(frzV H v).bind fun(v',H1)=>(frzVs H1 vs).bind fun(vs',H2)=>some (v' :: vs',H2)
def qbv (H:Heap)(v:V):Option (V × Heap):=
 (frzV H v).bind fun(v',H1)=>if v'.pure=true then some (v',H1)else none
def qce (H:Heap):List V->Option (List V × Heap)
 | []=>some ([],H)
 |v :: vs=>(qbv H v).bind fun(v',H1)=>(qce H1 vs).bind fun(vs',H2)=>some (v' :: vs',H2)
def elems (H:Heap):V->Option (List V)
 | .nil=>some []
 | .emp=>some []
 | .sl l=>some l
 | .ref b z off len=>
  match H[b]? with
  |some (some k)=>if k.arr=true/\k.z=z/\off+len<=k.el.length then some ((k.el.drop off).take len)else none
  |_=>none
 |_=>none
def qcc (z:Nat):List V->Bool
 | []=>true
 |e :: _=>decide (e.cells.length=z)
def fillC (cells:List V):List (Nat × Nat × V)->Option (List V)
 | []=>some cells
 | (off,size,v) :: rest=>
  if v.cells.length=size/\off+size<=cells.length/\v.isTup=false then fillC (qcq cells off v.cells) rest else none
def fillE (z:Nat)(el:List V):List (Nat × V)->Option (List V)
 | []=>some el
 | (i,v) :: rest=>if v.cells.length=z/\i<el.length then fillE z (el.set i v) rest else none
def natOf : V->Option Nat
 | .int _ n=>if 0<=n then some n.toNat else none
 |_=>none
def qbi (E:Env)(d:Nat):Option X->Option Nat
 |none=>some d
 |some x=>natOf (getX E x)
def qaz (need bytes:Nat):Bool:=decide (need*bytes<=140737488355328)
def apart : V->V->Bool
 | .ptr b _ _,.ptr b' _ _=>b != b'
 | .eptr _,_=>true
 |_,_=>false
def qjq (n0 z:Nat)(a x:V)(H:Heap):Option (V × Heap):=
 match a with
 | .ptr b i off=>
  match H[b]? with
  |some (some k)=>
   if x.isTup=false then
    (if k.arr=true\/b<n0 then qbv H x else some (x,H)).bind fun(v,H1)=>
     match H1[b]? with
     |some (some k1)=>
      match k1.el[i]? with
      |some e=>
       if k1.wr=true/\k1.arr=k.arr/\v.cells.length=z/\off+z<=e.cells.length then
        some (.undef,H1.set b (some { k1 with el:=k1.el.set i (e.withCells (qcq e.cells off v.cells)) }))
       else none
      |none=>none
     |_=>none
   else none
  |_=>none
 |_=>none
def stp (n0:Nat)(op:AOp)(E:Env)(H:Heap):Option (V × Heap):=
 match op with
 | .mv x=>some (getX E x,H)
 | .pick c a b=>
  match getX E c with
  | .bool t=>some (if t then getX E a else getX E b,H)
  |_=>none
 | .box z x=>
  if(getX E x).cells.length=z/\(getX E x).isTup=false then some (.ptr H.length 0 0,H++[some ⟨z,[getX E x],false,true⟩])else none
 | .new z v=>if v.cells.length=z/\v.pure=true then some (.ptr H.length 0 0,H++[some ⟨z,[v],false,true⟩])else none
 | .build zero parts=>
  if zero.all V.cellPure=true then(fillC zero (parts.map fun p=>(p.1,p.2.1,getX E p.2.2))).map fun cs=>(.agg cs,H)else none
 | .bslice z len zero parts=>
  if zero.cells.length=z/\zero.pure=true then
   (qce H (parts.map fun p=>getX E p.2)).bind fun(vs,H1)=>
    (fillE z (List.replicate len zero) ((parts.map (·.1)).zip vs)).map fun el=>(.ref H1.length z 0 len,H1++[some ⟨z,el,true,true⟩])
  else none
 | .plit z len zero parts=>
  if zero.cells.length=z/\zero.pure=true then
   (qce [] (parts.map fun p=>getX E p.2)).bind fun q=>
    (fillE z (List.replicate len zero) ((parts.map (·.1)).zip q.1)).bind fun el=>if 0+len<=el.length then some (.sl ((el.drop 0).take len),H)else none
  else none
 | .load ag z x=>
  match getX E x with
  | .eptr cs=>(wrapC ag z cs).map fun v=>(v,H)
  | .ptr b i off=>
   match H[b]? with
   |some (some k)=>
    match k.el[i]? with
    |some e=>(wrapC ag z (e.cells.drop off)).map fun v=>(v,H)
    |none=>none
   |_=>none
  |_=>none
 | .store z a x=>qjq n0 z (getX E a) (getX E x) H
 | .sload ag z t=>
  match E t with
  | .eptr cs=>(wrapC ag z cs).map fun v=>(v,H)
  | .ptr b i off=>
   match H[b]? with
   |some (some k)=>
    match k.el[i]? with
    |some e=>(wrapC ag z (e.cells.drop off)).bind fun v=>if v.cells.all (V.lowB H.length)=true/\v.isTup=false then some (v,H)else none
    |none=>none
   |_=>none
  |_=>none
 | .storeN z a x av=>if(getX E x).pure=true/\(av.all fun t=>apart (E t) (getX E a))=true then qjq n0 z (getX E a) (getX E x) H else none
 | .bin bk op x y=>(binV bk op (getX E x) (getX E y)).map fun v=>(v,H)
 | .un op x=>(unV op (getX E x)).map fun v=>(v,H)
 | .conv k x=>
  match getX E x with
  | .int _ n=>some (.int k (k.wrap n),H)
  |_=>none
 | .mkfn g caps=>if(caps.map (getX E)).all V.isCell=true then some (.fn g (caps.map (getX E)),H)else none
 | .mkslice z bytes zero l c=>
  match natOf (getX E l),natOf (getX E c)with
  |some l,some c=>
   if l<=c/\c*bytes<=281474976710656/\c<=9223372036854775807/\zero.cells.length=z/\zero.pure=true then
    some (.ref H.length z 0 l,H++[some ⟨z,List.replicate c zero,true,true⟩])
   else none
  |_,_=>none
 | .slice z x lo hi mx=>
  match getX E x with
  | .nil=>
   match qbi E 0 lo,qbi E 0 hi,qbi E 0 mx with
   |some 0,some 0,some 0=>some (.nil,H)
   |_,_,_=>none
  | .sl l=>
   match qbi E 0 lo,qbi E l.length hi,qbi E l.length mx with
   |some lo,some hi,some mx=>
    if lo<=hi/\hi<=mx/\mx<=l.length/\(lo=0\/qcc z ((l.take hi).drop lo)=true)then some (.sl ((l.take hi).drop lo),H)else none
   |_,_,_=>none
  | .ref b z' off len=>
   match qbi E 0 lo,qbi E len hi,mx with
   |some lo,some hi,none=>if lo<=hi/\hi<=len/\z'=z then some (.ref b z' (off+lo) (hi-lo),H)else none
   |_,_,_=>none
  |_=>none
 | .faddr off x=>
  match getX E x with
  | .ptr b i o=>some (.ptr b i (o+off),H)
  | .eptr cs=>some (.eptr (cs.drop off),H)
  |_=>none
 | .field ag off z x=>
  match getX E x with
  | .agg cs=>(wrapC ag z (cs.drop off)).map fun v=>(v,H)
  |_=>none
 | .iaddr z x i=>
  match getX E x,natOf (getX E i)with
  | .sl l,some i=>
   match l[i]? with
   |some e=>if e.cells.length=z then some (.eptr e.cells,H)else none
   |none=>none
  | .ref b z' off len,some i=>if i<len/\z'=z then some (.ptr b (off+i) 0,H)else none
  |_,_=>none
 | .aiaddr n z x i=>
  match getX E x,natOf (getX E i)with
  | .ptr b j off,some i=>if i<n then some (.ptr b j (off+i*z),H)else none
  | .eptr cs,some i=>if i<n then some (.eptr (cs.drop (i*z)),H)else none
  |_,_=>none
 | .index ag n z x i=>
  match getX E x,natOf (getX E i)with
  | .agg cs,some i=>if i<n then(wrapC ag z (cs.drop (i*z))).map fun v=>(v,H)else none
  |_,_=>none
 | .sindex x i=>
  match getX E x,natOf (getX E i)with
  | .str s,some i=>
   match s[i]? with
   |some b=>some (.int .u8 b.toNat,H)
   |none=>none
  |_,_=>none
 | .extract i x=>
  match getX E x with
  | .tup vs=>(vs[i]?).map fun v=>(v,H)
  |_=>none
 | .len x=>
  match getX E x with
  | .sl l=>some (.int .i64 l.length,H)
  | .nil=>some (.int .i64 0,H)
  | .emp=>some (.int .i64 0,H)
  | .ref _ _ _ len=>some (.int .i64 len,H)
  |_=>none
 | .lenc n _=>some (.int .i64 n,H)
 | .capn x=>
  match getX E x with
  | .nil=>some (.int .i64 0,H)
  |_=>none
 | .append z bytes x y=>
  (elems H (getX E y)).bind fun ys=>
   if qcc z ys=true then
    match getX E x with
    | .nil=>
     if ys=[]then some (.nil,H)
     else if qaz ys.length bytes=true then some (.ref H.length z 0 ys.length,H++[some ⟨z,ys,true,true⟩])else none
    | .ref b z' off len=>
     match H[b]? with
     |some (some k)=>
      if k.arr=true/\k.wr=true/\k.z=z/\z'=z/\off+len<=k.el.length/\qaz (len+ys.length) bytes=true then
       if ys=[]then some (.ref b z' off len,H)
       else some (.ref H.length z 0 (len+ys.length),H.set b none++[some ⟨z,(k.el.drop off).take len++ys,true,true⟩])
      else none
     |_=>none
    |_=>none
   else none
 | .appendZ z bytes zero x n=>
  match getX E x,natOf (getX E n)with
  | .nil,some m=>
   if 0<m/\m*bytes<=140737488355328/\m<=9223372036854775807/\zero.cells.length=z/\zero.pure=true then some (.ref H.length z 0 m,H++[some ⟨z,List.replicate m zero,true,true⟩])else none
  |_,_=>none
 | .copy z x y=>
  match getX E x with
  | .ref b z' off len=>
   (elems H (getX E y)).bind fun ys=>
    match H[b]? with
    |some (some k)=>
     if k.arr=true/\k.wr=true/\k.z=z/\z'=z/\qcc z ys=true/\off+len<=k.el.length then
      some (.int .i64 (Nat.min ys.length len),H.set b (some { k with el:=qcq k.el off (ys.take len) }))
     else none
    |_=>none
  |_=>none
 | .min x y=>
  match getX E x,getX E y with
  | .int k a,.int k' b=>if k=k' then some (.int k (if b<a then b else a),H)else none
  |_,_=>none
 | .max x y=>
  match getX E x,getX E y with
  | .int k a,.int k' b=>if k=k' then some (.int k (if a<b then b else a),H)else none
  |_,_=>none
 | .max3 x y z=>
  match getX E x,getX E y,getX E z with
  | .int k a,.int k' b,.int k'' c=>if k=k'/\k=k'' then some (.int k (if(if a<b then b else a)<c then c else if a<b then b else a),H)else none
  |_,_,_=>none
 | .call _ _=>none
def gd (o:AOper)(E:Env):Option Bool:=
 match o.guard with
 |none=>some true
 |some (t,want)=>
  match E t with
  | .bool b=>some (b == want)
  | .tup _=>some false
  |_=>none
def E0 (args:List V):Env:=fun i=>args.getD i .undef
def resV1 (E:Env)(H:Heap):RV->Option V
 | .tmp t=>some (E t)
 | .cell t ag z=>(stp 0 (.load ag z (.t t)) E H).map (·.1)
def resVs (E:Env)(H:Heap):List RV->Option (List V)
 | []=>some []
 |r :: rs=>(resV1 E H r).bind fun v=>(resVs E H rs).bind fun vs=>some (v :: vs)
def resV (E:Env)(H:Heap)(rs:List RV):Option V:=
 (resVs E H rs).map fun vs=>match vs with
  | [v]=>v
  |vs=>.tup vs
def ownC (n0:Nat)(H:Heap)(acc:Heap):V->Option (V × Heap × Heap)
 | .nil=>some (.nil,H,acc)
 | .ref b z off len=>
  match H[b]? with
  |some (some k)=>
   if n0<=b/\k.arr=true/\k.wr=true/\k.z=z/\off+len<=k.el.length then
    some (.ref (n0+acc.length) z 0 len,H.set b none,acc++[some { k with el:=(k.el.drop off).take len }])
   else if b<n0 then some (.ref b z off len,H,acc)else none
  |_=>none
 |c=>(frzC H c).bind fun(c',H1)=>if c'.cellPure=true then some (c',H1,acc)else none
def ownCs (n0:Nat)(H acc:Heap):List V->Option (List V × Heap × Heap)
 | []=>some ([],H,acc)
 |c :: cs=>(ownC n0 H acc c).bind fun(c',H1,acc1)=>(ownCs n0 H1 acc1 cs).bind fun(cs',H2,acc2)=>some (c' :: cs',H2,acc2)
def ownV (n0:Nat)(H acc:Heap):V->Option (V × Heap × Heap)
 | .agg cs=>(ownCs n0 H acc cs).bind fun(cs',H1,acc1)=>some (.agg cs',H1,acc1)
 |v=>ownC n0 H acc v
def ownVs (n0:Nat)(H acc:Heap):List V->Option (List V × Heap × Heap)
 | []=>some ([],H,acc)
 |v :: vs=>(ownV n0 H acc v).bind fun(v',H1,acc1)=>(ownVs n0 H1 acc1 vs).bind fun(vs',H2,acc2)=>some (v' :: vs',H2,acc2)
def fin (own:Bool)(n0:Nat)(H:Heap)(v:V):Option (V × Heap):=
 if own then
  match v with
  | .tup vs=>(ownVs n0 H [] vs).bind fun(vs',H1,acc)=>some (.tup vs',H1.take n0++acc)
  |v=>(ownV n0 H [] v).bind fun(v',H1,acc)=>some (v',H1.take n0++acc)
 else
  match v with
  | .tup vs=>(qce H vs).bind fun(vs',H1)=>some (.tup vs',H1.take n0)
  |v=>(qbv H v).bind fun(v',H1)=>some (v',H1.take n0)
inductive AX where
 |normal
 |exit (id:Nat)
 |ret
 deriving DecidableEq
def AX.outOf (id:Nat):AX->AX
 | .exit id'=>if id'=id then .normal else .exit id'
 |x=>x
inductive Task where
 |call (g:Nat) (args:List V) (H:Heap)
 |code (n0:Nat) (c:AC) (E:Env) (H:Heap)
 |ops (n0:Nat) (draw:Bool) (l:List AOper) (E:Env) (H:Heap)
inductive Res where
 |ret (v:V) (H:Heap)
 |cd (x:AX) (E:Env) (H:Heap)
def prep (S:AProg)(g:Nat)(H:Heap)(args:List V):Option (List V × Heap):=
 match S.fn g with
 |some f=>if f.raw then some (args,H)else frzVs H args
 |none=>frzVs H args
inductive Ev (S:AProg):Task->Res->Prop
 |skip {n0 E H}:Ev S (.code n0 .skip E H) (.cd .normal E H)
 |seqN {n0 a b E H E1 H1 r}:Ev S (.code n0 a E H) (.cd .normal E1 H1)->Ev S (.code n0 b E1 H1) r->Ev S (.code n0 (.seq a b) E H) r
 |seqX {n0 a b E H x E1 H1}:Ev S (.code n0 a E H) (.cd x E1 H1)->x≠.normal->Ev S (.code n0 (.seq a b) E H) (.cd x E1 H1)
 |cond {n0 c a b E H t r}:getX E c=.bool t->Ev S (.code n0 (if t then a else b) E H) r->Ev S (.code n0 (.cond c a b) E H) r
 |block {n0 id c E H x E1 H1}:Ev S (.code n0 c E H) (.cd x E1 H1)->Ev S (.code n0 (.block id c) E H) (.cd (x.outOf id) E1 H1)
 |scope {n0 c E H x E1 H1}:Ev S (.code n0 c E H) (.cd x E1 H1)->Ev S (.code n0 (.scope c) E H) (.cd x E1 H1)
 |loopN {n0 c E H E1 H1 r}:Ev S (.code n0 c E H) (.cd .normal E1 H1)->Ev S (.code n0 (.loop c) E1 H1) r->Ev S (.code n0 (.loop c) E H) r
 |loopX {n0 c E H x E1 H1}:Ev S (.code n0 c E H) (.cd x E1 H1)->x≠.normal->Ev S (.code n0 (.loop c) E H) (.cd x E1 H1)
 |exit {n0 id E H}:Ev S (.code n0 (.exit id) E H) (.cd (.exit id) E H)
 |ret {n0 E H}:Ev S (.code n0 .ret E H) (.cd .ret E H)
 |region {n0 d l E H E1 H1}:Ev S (.ops n0 d l E H) (.cd .normal E1 H1)->Ev S (.code n0 (.region d l) E H) (.cd .normal E1 H1)
 |opNil {n0 d E H}:Ev S (.ops n0 d [] E H) (.cd .normal E H)
 |opSkip {n0 d o l E H r}:gd o E=some false->Ev S (.ops n0 d l (put E o.dst .undef) H) r->Ev S (.ops n0 d (o :: l) E H) r
 |opDo {n0 d o l E H v H1 r}:gd o E=some true->stp n0 o.op E H=some (v,H1)->(d=true->o.sync=false->H <+: H1) ->
  Ev S (.ops n0 d l (put E o.dst v) H1) r->Ev S (.ops n0 d (o :: l) E H) r
 |opCall {n0 d o l E H x xs g caps vs H1 v H2 r}:gd o E=some true->o.op=.call x xs->getX E x=.fn g caps ->
  prep S g H (xs.map (getX E)++caps)=some (vs,H1)->Ev S (.call g vs H1) (.ret v H2)->(d=true->o.sync=false->H <+: H2) ->
  Ev S (.ops n0 d l (put E o.dst v) H2) r->Ev S (.ops n0 d (o :: l) E H) r
 |call {g f args H x E1 H1 v0 v H2}:S.fn g=some f->Ev S (.code H.length f.body (E0 args) H) (.cd x E1 H1)->(x=.normal\/x=.ret) ->
  resV E1 H1 f.results=some v0->fin f.own H.length H1 v0=some (v,H2)->Ev S (.call g args H) (.ret v H2)
 |emp {g pre post H r}:Ev S (.call g (pre++.nil :: post) H) r->Ev S (.call g (pre++.emp :: post) H) r->Ev S (.call g (pre++.sl [] :: post) H) r
 |prim {g args H v}:S.prim g args=some v->Ev S (.call g args H) (.ret v H)
@[simp] def oA0 (d f:Nat):AOper:=⟨some d,.call (.f f) [],none,false⟩
@[simp] def oB0 (d f:Nat):AOper:=⟨some d,.call (.f f) [],none,true⟩
@[simp] def oC0 (d g f:Nat):AOper:=⟨some d,.call (.f f) [],some (g,false),false⟩
@[simp] def oD0 (d g f:Nat):AOper:=⟨some d,.call (.f f) [],some (g,true),false⟩
@[simp] def oA1 (d f a:Nat):AOper:=⟨some d,.call (.f f) [.t a],none,false⟩
@[simp] def oB1 (d f a:Nat):AOper:=⟨some d,.call (.f f) [.t a],none,true⟩
@[simp] def oC1 (d g f a:Nat):AOper:=⟨some d,.call (.f f) [.t a],some (g,false),false⟩
@[simp] def oD1 (d g f a:Nat):AOper:=⟨some d,.call (.f f) [.t a],some (g,true),false⟩
@[simp] def oA2 (d f a b:Nat):AOper:=⟨some d,.call (.f f) [.t a,.t b],none,false⟩
@[simp] def oB2 (d f a b:Nat):AOper:=⟨some d,.call (.f f) [.t a,.t b],none,true⟩
@[simp] def oC2 (d g f a b:Nat):AOper:=⟨some d,.call (.f f) [.t a,.t b],some (g,false),false⟩
@[simp] def oD2 (d g f a b:Nat):AOper:=⟨some d,.call (.f f) [.t a,.t b],some (g,true),false⟩
@[simp] def oA3 (d f a b c:Nat):AOper:=⟨some d,.call (.f f) [.t a,.t b,.t c],none,false⟩
@[simp] def oB3 (d f a b c:Nat):AOper:=⟨some d,.call (.f f) [.t a,.t b,.t c],none,true⟩
@[simp] def oC3 (d g f a b c:Nat):AOper:=⟨some d,.call (.f f) [.t a,.t b,.t c],some (g,false),false⟩
@[simp] def oD3 (d g f a b c:Nat):AOper:=⟨some d,.call (.f f) [.t a,.t b,.t c],some (g,true),false⟩
@[simp] def oA4 (d f a b c e:Nat):AOper:=⟨some d,.call (.f f) [.t a,.t b,.t c,.t e],none,false⟩
@[simp] def oB4 (d f a b c e:Nat):AOper:=⟨some d,.call (.f f) [.t a,.t b,.t c,.t e],none,true⟩
@[simp] def oC4 (d g f a b c e:Nat):AOper:=⟨some d,.call (.f f) [.t a,.t b,.t c,.t e],some (g,false),false⟩
@[simp] def oD4 (d g f a b c e:Nat):AOper:=⟨some d,.call (.f f) [.t a,.t b,.t c,.t e],some (g,true),false⟩
@[simp] def oA5 (d f a b c e i:Nat):AOper:=⟨some d,.call (.f f) [.t a,.t b,.t c,.t e,.t i],none,false⟩
@[simp] def oB5 (d f a b c e i:Nat):AOper:=⟨some d,.call (.f f) [.t a,.t b,.t c,.t e,.t i],none,true⟩
@[simp] def oC5 (d g f a b c e i:Nat):AOper:=⟨some d,.call (.f f) [.t a,.t b,.t c,.t e,.t i],some (g,false),false⟩
@[simp] def oD5 (d g f a b c e i:Nat):AOper:=⟨some d,.call (.f f) [.t a,.t b,.t c,.t e,.t i],some (g,true),false⟩
@[simp] def oA6 (d f a b c e i j:Nat):AOper:=⟨some d,.call (.f f) [.t a,.t b,.t c,.t e,.t i,.t j],none,false⟩
@[simp] def oB6 (d f a b c e i j:Nat):AOper:=⟨some d,.call (.f f) [.t a,.t b,.t c,.t e,.t i,.t j],none,true⟩
@[simp] def oC6 (d g f a b c e i j:Nat):AOper:=⟨some d,.call (.f f) [.t a,.t b,.t c,.t e,.t i,.t j],some (g,false),false⟩
@[simp] def oD6 (d g f a b c e i j:Nat):AOper:=⟨some d,.call (.f f) [.t a,.t b,.t c,.t e,.t i,.t j],some (g,true),false⟩
@[simp] def oE (d g a:Nat):AOper:=⟨some d,.mv (.t a),some (g,false),false⟩
@[simp] def oF (d g a:Nat):AOper:=⟨some d,.mv (.t a),some (g,true),false⟩
@[simp] def oG (d g:Nat)(b:Bool)(z a:Nat):AOper:=⟨some d,.load b z (.t a),some (g,false),false⟩
@[simp] def oH (d g:Nat)(b:Bool)(z a:Nat):AOper:=⟨some d,.load b z (.t a),some (g,true),false⟩
@[simp] def oI (d z a:Nat):AOper:=⟨some d,.load true z (.t a),none,false⟩
@[simp] def oJ (d a:Nat):AOper:=⟨some d,.load false 1 (.t a),none,false⟩
@[simp] def oK (z a x:Nat)(b:Bool):AOper:=⟨none,.store z (.t a) (.t x),none,b⟩
@[simp] def oL (d:Nat):AOper:=⟨some d,.new 7 (.agg [.bool false,.nil,.int .i64 0,.bool false,.nil,.int .i64 0,.bool false]),none,false⟩
@[simp] def oM (d:Nat):AOper:=⟨some d,.new 3 (.agg [.bool false,.nil,.int .i64 0]),none,false⟩
@[simp] def oN (d:Nat)(o:BinOp)(a b:Nat):AOper:=⟨some d,.bin .num o (.t a) (.t b),none,false⟩
@[simp] def oO (d:Nat)(o:BinOp)(a:Nat)(n:Int):AOper:=⟨some d,.bin .num o (.t a) (.c (.int .i64 n)),none,false⟩
@[simp] def oQ (d k a:Nat):AOper:=⟨some d,.faddr k (.t a),none,false⟩
@[simp] def oR (d k a:Nat):AOper:=⟨some d,.extract k (.t a),none,false⟩
@[simp] def oT (d a:Nat):AOper:=⟨some d,.len (.t a),none,false⟩
@[simp] def oU (d z a:Nat):AOper:=⟨some d,.box z (.t a),none,false⟩
@[simp] def oV (d z a i:Nat):AOper:=⟨some d,.iaddr z (.t a) (.t i),none,false⟩
@[simp] def oW (d a:Nat):AOper:=⟨some d,.un .not (.t a),none,false⟩
@[simp] def oX (d a b:Nat):AOper:=⟨some d,.pick (.t a) (.c (.bool true)) (.t b),none,false⟩
@[simp] def oY (d a b:Nat):AOper:=⟨some d,.pick (.t a) (.t b) (.c (.bool false)),none,false⟩
@[simp] def oZ (d:Nat)(b:Bool):AOper:=⟨some d,.mv (.c (.bool b)),none,false⟩
@[simp] def mV (d t:Nat):AOper:=⟨some d,.mv (.t t),none,false⟩
@[simp] def oP (d:Nat)(op:AOp):AOper:=⟨some d,op,none,false⟩
@[simp] def oS (d:Nat)(op:AOp):AOper:=⟨some d,op,none,true⟩
@[simp] def gT (d t:Nat)(op:AOp):AOper:=⟨some d,op,some (t,true),false⟩
@[simp] def gF (d t:Nat)(op:AOp):AOper:=⟨some d,op,some (t,false),false⟩
@[simp] def nF (l:List AOper):AC:=.region false l
@[simp] def nT (l:List AOper):AC:=.region true l
@[simp] def nC (t:Nat)(a b:AC):AC:=.cond (.t t) a b
@[simp] def nR (l:List AOper):AC:=.seq (.region false l) .ret
@[simp] def nS (a b:AC):AC:=.seq a b
@[simp] def nI:List V:=[.bool false,.nil,.int .i64 0,.bool false,.nil,.int .i64 0,.bool false]
@[simp] def nD:List V:=[.bool false,.nil,.int .i64 0]
@[simp] def nG (r:List RV)(c:AC):AFn:=⟨r,c,false,false⟩
@[simp] def nB:List V:=[.bool false,.nil]
@[simp] def nL (z a:Nat):AOp:=.load true z (.t a)
@[simp] def nM (z a:Nat):AOp:=.load false z (.t a)
@[simp] def nA (o a:Nat):AOp:=.faddr o (.t a)
@[simp] def nX (b:Go.BinOp)(a:Nat)(v:Int):AOp:=.bin .num b (.t a) (.c (.int .i64 v))
@[simp] def nY (b:Go.BinOp)(a c:Nat):AOp:=.bin .num b (.t a) (.t c)
@[simp] def nU (a:Nat):AOp:=.un .not (.t a)
@[simp] def nV (v:Int):AOp:=.mv (.c (.int .i64 v))
@[simp] def nP (a:Nat):AOp:=.call (.f a) []
@[simp] def nP1 (f a:Nat):AOp:=.call (.f f) [.t a]
@[simp] def nP2 (f a b:Nat):AOp:=.call (.f f) [.t a,.t b]
@[simp] def nE (i a:Nat):AOp:=.extract i (.t a)
def str_0 : ByteArray:=⟨#[0,1,2,2,3,3,3,3,4,4,4,4,4,4,4,4,5,5,5,5,5,5,5,5,5,5,5,5,5,5,5,5,6,6,6,6,6,6,6,6,6,6,6,6,6,6,6,6,6,6,6,6,6,6,6,6,6,6,6,6,6,6,6,6,7,7,7,7,7,7,7,7,7,7,7,7,7,7,7,7,7,7,7,7,7,7,7,7,7,7,7,7,7,7,7,7,7,7,7,7,7,7,7,7,7,7,7,7,7,7,7,7,7,7,7,7,7,7,7,7,7,7,7,7,7,7,7,7,8,8,8,8,8,8,8,8,8,8,8,8,8,8,8,8,8,8,8,8,8,8,8,8,8,8,8,8,8,8,8,8,8,8,8,8,8,8,8,8,8,8,8,8,8,8,8,8,8,8,8,8,8,8,8,8,8,8,8,8,8,8,8,8,8,8,8,8,8,8,8,8,8,8,8,8,8,8,8,8,8,8,8,8,8,8,8,8,8,8,8,8,8,8,8,8,8,8,8,8,8,8,8,8,8,8,8,8,8,8,8,8,8,8,8,8,8,8,8,8,8,8,8,8,8,8,8,8]⟩
def look (l:List (Nat × AFn))(g:Nat):Option AFn:=(l.find? fun p=>p.1 == g).map (·.2)
end Go.Abs
