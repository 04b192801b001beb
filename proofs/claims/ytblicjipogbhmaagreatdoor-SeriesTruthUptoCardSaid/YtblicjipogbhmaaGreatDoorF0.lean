import GoSem.Core.Code
import GoSem.Core.View
namespace Go.Abs
set_option linter.defProp false
def k9:=@List.getElem?_eq_getElem
def Vg:=@Nat.pow_le_pow_right
def Vh:=@if_pos
def Vi:=@List.getElem?_eq_some_iff
def Vj:=@Rat.le_of_lt
def Vk:=@if_neg
def Vl:=@Nat.two_pow_pos
def Vm:=@Nat.lt_or_ge
def Vn:=@Nat.mul_le_mul_right
def Vo:=@Nat.le_refl
def Vp:=@Nat.le_trans
def Vq:=@Rat.mul_le_mul_of_nonneg_right
def Vr:=@List.getElem?_append_left
def Vs:=@Nat.pow_add
def Vt:=@Nat.mul_assoc
def Vu:=@Int.le_of_lt
def Vv:=@Bool.false_eq_true
def Vw:=@Rat.le_of_mul_le_mul_right
def Vx:=@Nat.lt_of_lt_of_le
def Vy:=@List.getElem_mem
def Vz:=@Option.bind_eq_some_iff
def VA:=@Bool.and_eq_true
def VB:=@Int.mul_le_mul_of_nonneg_right
def VC:=@List.take_of_length_le
def VD:=@List.getElem?_append_right
def VE:=@Nat.mul_comm
def VF:=@Nat.add_zero
def VG:=@Rat.intCast_mul
def VH:=@Nat.pow_succ
def VI:=@Nat.add_mul
def VJ:=@List.prefix_refl
def VK:=@List.eq_nil_of_length_eq_zero
def VL:=@Int.le_refl
def VM:=@Nat.mul_add
def VN:=@Nat.mul_le_mul_left
def VO:=@Nat.mod_eq_of_lt
def VP:=@Rat.mul_one
def VQ:=@Rat.intCast_neg
def VR:=@Rat.mul_assoc
def VS:=@Array.getD_eq_getD_getElem?
def VT:=@decide_eq_true_eq
def VU:=@List.all_eq_true
def VV:=@Option.map_eq_some_iff
def VW:=@Nat.div_lt_iff_lt_mul
def VX:=@List.mem_of_getElem?
def VY:=@Nat.div_le_self
def VZ:=@Int.tmod_eq_emod_of_nonneg
def V0:=@Rat.div_def
def V1:=@Int.mul_le_mul_of_nonneg_left
def V2:=@Rat.le_refl
def V3:=@Option.bind_some
def V4:=@Nat.lt_of_le_of_lt
def V5:=@Int.lt_or_le
def V6:=@List.mem_append
def V7:=@Nat.mul_lt_mul_of_pos_right
def V8:=@if_false
def V9:=@Int.neg_mul
def Wa:=@List.getElem?_of_mem
def Wb:=@Nat.exists_eq_add_of_le
def Wc:=@List.getElem?_set_ne
def Wd:=@List.mem_toArray
def We:=@Nat.div_eq_of_lt
def Wf:=@Rat.mul_le_mul_of_nonneg_left
def Wg:=@Rat.intCast_add
def Wh:=@Rat.intCast_natCast
def Wi:=@Nat.mul_le_mul
def Wj:=@List.drop_drop
def Wk:=@List.getElem?_set_self
def Wl:=@List.prefix_append
def Wm:=@if_true
def Wn:=@List.length_map
def Wo:=@List.drop_eq_getElem_cons
def Wp:=@Rat.le_trans
def Wq:=@Nat.le_div_iff_mul_le
def Wr:=@Rat.mul_pos
def Ws:=@List.getElem?_drop
def Wt:=@List.mem_singleton
def Wu:=@Nat.eq_zero_or_pos
def Wv:=@Rat.mul_inv_cancel
def Ww:=@Nat.div_div_eq_div_mul
def Wx:=@Rat.mul_comm
def Wy:=@Nat.div_add_mod
def Wz:=@List.mem_cons
def WA:=@Nat.pow_lt_pow_right
def WB:=@Rat.one_mul
def WD:=@Int.mul_assoc
def WE:=@List.getElem?_map
def WF:=@Bool.or_eq_true
def WG:=@Nat.mod_lt
def WH:=@Nat.one_mul
def WI:=@List.findIdx?_eq_some_iff_getElem
def WJ:=@Array.getElem?_setIfInBounds
def WM:=@Nat.mul_left_comm
def WN:=@Int.one_mul
def WQ:=@List.getElem?_take
def WR:=@Nat.zero_mul
def WS:=@Nat.mul_zero
def WT:=@Nat.div_mul_le_self
def WU:=@List.drop_set_of_lt
def WV:=@Int.zero_mul
def WW:=@Nat.min_eq_left
def WX:=@Option.map_some
def WY:=@Nat.div_add_mod'
def WZ:=@Eq.trans
def W0:=@Int.lt_ediv_add_one_mul_self
def W1:=@Nat.zero_add
def W2:=@congrArg
def W3:=@Int.toNat_natCast
def W4:=@List.mem_of_mem_take
def W5:=@Rat.natCast_mul
def W6:=@Nat.le_of_lt
def W7:=@List.drop_of_length_le
def W8:=@List.findIdx?_eq_none_iff
def W9:=@List.getLast?_eq_some_getLast
def Xa:=@Nat.zero_le
def Xb:=@Nat.pow_lt_pow_iff_right
def Xc:=@List.length_append
def Xd:=@Option.getD_some
def Xe:=@Nat.eq_of_mul_eq_mul_right
def Xf:=@List.getElem_of_mem
def Xg:=@List.getElem?_toArray
def Xh:=@List.length_cons
def Xi:=@List.eq_of_mem_replicate
def Xj:=@Nat.mul_pos
def Xk:=@List.mem_of_mem_drop
def Xl:=@Int.mul_pos
def Xm:=@Int.mul_nonneg
def Xn:=@Nat.le_mul_of_pos_right
def Xo:=@Iff.rfl
def Xp:=@List.flatMap_cons
def Xq:=@Nat.sub_le
def Xr:=@Rat.zero_mul
def Xs:=@Nat.pow_pos
def Xt:=@List.length_take
def Xu:=@List.not_mem_nil
def Xv:=@Nat.lt_of_mul_lt_mul_right
def Xw:=@Nat.le_of_mul_le_mul_right
def Xx:=@List.length_singleton
def Xy:=@List.take_append_drop
def Xz:=@List.mem_or_eq_of_mem_set
def XA:=@Nat.add_mul_mod_self_left
def XB:=@List.append_nil
def XC:=@Int.natCast_mul
def XD:=@Nat.mul_ne_zero
def XE:=@Nat.mul_add_div
def XF:=@Rat.natCast_add
def XG:=@List.append_assoc
def XH:=@Int.mul_comm
def XI:=@List.mem_append_left
def XJ:=@Array.getElem?_replicate
def XK:=@Nat.and_two_pow_sub_one_eq_mod
def XL:=@List.getElem_map
def XM:=@Int.mul_le_mul
def XN:=@Nat.mul_one
def XO:=@Nat.mod_one
def XP:=@Nat.add_comm
def XQ:=@Array.empty_append
def XR:=@Rat.inv_mul_cancel
def XS:=@Int.le_ediv_iff_mul_le
def XT:=@Nat.mul_add_mod
def XU:=@Int.ediv_mul_le
def XV:=@List.mem_append_right
def XX:=@Nat.lt_trichotomy
def XY:=@Array.mem_toList_iff
def XZ:=@List.getElem?_mapIdx
def X0:=@Nat.add_mul_div_left
def X3:=@BitVec.msb_eq_decide
def X4:=@Nat.sub_mul
def X5:=@Int.add_mul
def X6:=@Int.lt_of_mul_lt_mul_right
def X7:=@Int.mul_neg
def X8:=@Int.natAbs_mul
def X9:=@Nat.le_add_right
def Ya:=@Nat.mul_lt_mul''
def Yb:=@Nat.mul_mod_left
def Yc:=@Nat.pow_zero
def Yd:=@List.getLast?_eq_getElem?
def Ye:=@Decidable.byContradiction
def Yf:=@List.map_congr_left
def Yg:=@Nat.add_assoc
def Yh:=@List.set_eq_of_length_le
def Yi:=@List.all_cons
def Yj:=@Bool.eq_false_or_eq_true
def Yk:=@Rat.intCast_sub
def Yl:=@Nat.eq_or_lt_of_le
def Ym:=@Nat.mul_right_comm
def Yn:=@Nat.mul_div_cancel
def Yo:=@Rat.sub_eq_add_neg
def Yp:=@List.getElem?_replicate
def Yq:=@List.getElem?_cons_zero
def aaa:=@List.size_toArray
def aab:=@Array.all_eq_true_iff_forall_mem
def aac:=@Bool.not_false
def aad:=@bne_self_eq_false
def aae:=@List.set_append_right
def aaf:=@List.length_replicate
def aag:=@Nat.div_le_iff_le_mul_add_pred
def aah:=@Array.eq_empty_of_size_eq_zero
def aai:=@decide_eq_decide
def aaj:=@Nat.div_one
def aak:=@Nat.mod_mul
def aal:=@List.drop_eq_nil_iff
def aam:=@Rat.neg_mul
def aan:=@List.dropLast_concat_getLast
def aao:=@Nat.log2_eq_iff
def aap:=@List.foldl_cons
def aaq:=@Bool.eq_iff_iff
def aar:=@Nat.mod_add_div
def aas:=@Nat.testBit_and
def aat:=@List.replicate_succ
def aau:=@Nat.sub_self
def aav:=@Nat.two_pow_add_eq_or_of_lt
def aaw:=@Int.le_trans
def aax:=@Int.mul_lt_mul_of_pos_right
def aay:=@Array.getElem?_append_left
def aaz:=@List.mapM_cons
def aaA:=@List.drop_zero
def aaB:=@Nat.one_le_two_pow
def aaC:=@Nat.mul_lt_mul_of_lt_of_le
def aaD:=@Rat.div_mul_cancel
def aaE:=@decide_eq_true
def aaF:=@Array.mapM_eq_mapM_toList
def aaG:=@Int.mul_neg_of_neg_of_pos
def aaH:=@List.take_add_one
def aaI:=@Bool.eq_false_iff
def aaJ:=@Rat.add_mul
def aaK:=@Nat.pow_succ'
def aaL:=@List.map_take
def aaM:=@List.map_cons
def aaN:=@Bool.false_or
def aaO:=@List.getElem?_take_of_lt
def aaP:=@Array.toList_map
def aaQ:=@or_false
def aaR:=@Array.mem_append
def aaS:=@BitVec.toNat_and
def aaT:=@List.getLast?_cons_cons
def aaU:=@List.getLast_eq_getElem
def aaV:=@BitVec.toNat_sub
def aaW:=@Nat.testBit_succ
def aaX:=@Nat.shiftLeft_eq
def aaY:=@Nat.mul_succ
def aaZ:=@Nat.le_mul_of_pos_left
def aba:=@Nat.sub_zero
def abb:=@Int.mul_zero
def abc:=@Rat.mul_zero
def abd:=@decide_eq_false
def abe:=@List.length_set
def abf:=@List.length_nil
def abg:=@List.mem_filter
def abh:=@BitVec.toNat_or
def abi:=@Int.natCast_add
def abj:=@Int.natCast_one
def abk:=@Array.getElem?_toList
def abl:=@List.getElem?_eq_none
def abm:=@Nat.mod_mul_right_mod
def abn:=@Nat.min_def
def abo:=@List.set_append_left
def abp:=@Nat.eq_of_testBit_eq
def abq:=@Nat.div_lt_of_lt_mul
def abr:=@Bool.false_bne
def abt:=@Bool.or_eq_false_iff
def abu:=@Int.natAbs_neg
def abv:=@Array.toList_zipIdx
def abw:=@Option.bind_eq_bind
def abx:=@Bool.not_true
def aby:=@List.drop_set
def abz:=@Bool.true_bne
def abA:=@Array.foldl_toList
def abB:=@Array.append_empty
def abC:=@beq_iff_eq
def abD:=@Nat.pos_of_ne_zero
def abE:=@Int.natAbs_natCast
def abF:=@Nat.le_succ_of_le
def abG:=@not_false_eq_true
def abH:=@Bool.not_eq_true'
def abI:=@Option.some.injEq
def abJ:=@Nat.or_lt_two_pow
def abK:=@Nat.ne_of_gt
def abP:=@Nat.pow_mul
def abQ:=@Nat.or_comm
def abW:=@true_and
def abX:=@Nat.mod_le
inductive V where
 |bool (b:Bool)
 |int (k:IntKind) (n:Int)
 |str (s:ByteArray)
 |sl (l:List V)
 |nil
 |emp
 |ref (b z off len:Nat)
 |ptr (b i off:Nat)
 |eptr (cs:List V)
 |agg (cs:List V)
 |tup (vs:List V)
 |fn (g:Nat) (cap:List V)
 |nilfn
 deriving Inhabited
def V.undef : V:=.tup []
def V.cells : V->List V
 | .agg cs=>cs
 |v=>[v]
def V.cellPure : V->Bool
 | .bool _| .int _ _| .str _| .sl _| .nil| .emp| .eptr _| .fn _ [] | .nilfn=>true
 |_=>false
def V.pure (v:V):Bool:=v.cells.all V.cellPure
def V.lowB (n:Nat):V->Bool
 | .ref b _ _ _=>decide (b<n)
 | .ptr b _ _=>decide (b<n)
 |v=>v.cellPure
def V.isTup : V->Bool
 | .tup _=>true
 |_=>false
def V.isCell : V->Bool
 | .agg _| .tup _=>false
 |_=>true
def V.withCells : V->List V->V
 | .agg _,cs=>.agg cs
 |_,cs=>cs.headD .nil
def V.softC : V->V
 | .nil=>.sl []
 |c=>c
def V.soft : V->V
 | .agg cs=>.agg (cs.map V.softC)
 |v=>v
structure Blk where
 z:Nat
 el:List V
 arr:Bool
 wr:Bool
abbrev ab :=List (Option Blk)
abbrev aA :=Nat->V
structure Gid where
 fn:FuncId->Option Nat
 tabs:Nat->Option (List V)
instance : CoeFun Gid (fun _=>FuncId->Option Nat):=⟨Gid.fn⟩
inductive X where
 |t (i:Nat)
 |c (v:V)
 |f (g:Nat)
inductive BK where
 |num
 |bool
 |slice
 |str
 |ints (n:Nat)
 deriving DecidableEq
inductive AOp where
 |mv (x:X)
 |pick (c a b:X)
 |box (z:Nat) (x:X)
 |new (z:Nat) (v:V)
 |build (zero:List V) (parts:List (Nat × Nat × X))
 |bslice (z len:Nat) (zero:V) (parts:List (Nat × X))
 |plit (z len:Nat) (zero:V) (parts:List (Nat × X))
 |load (ag:Bool) (z:Nat) (x:X)
 |store (z:Nat) (a x:X)
 |sload (ag:Bool) (z t:Nat)
 |storeN (z:Nat) (a x:X) (av:List Nat)
 |bin (k:BK) (op:BinOp) (x y:X)
 |un (op:UnOp) (x:X)
 |conv (k:IntKind) (x:X)
 |mkfn (g:Nat) (caps:List X)
 |mkslice (z bytes:Nat) (zero:V) (l c:X)
 |slice (z:Nat) (x:X) (lo hi mx:Option X)
 |faddr (off:Nat) (x:X)
 |field (ag:Bool) (off z:Nat) (x:X)
 |iaddr (z:Nat) (x i:X)
 |aiaddr (n z:Nat) (x i:X)
 |index (ag:Bool) (n z:Nat) (x i:X)
 |sindex (x i:X)
 |extract (i:Nat) (x:X)
 |len (x:X)
 |slen (x:X)
 |lenc (n:Nat) (x:X)
 |capn (x:X)
 |append (z bytes:Nat) (x y:X)
 |appendZ (z bytes:Nat) (zero:V) (x n:X)
 |copy (z:Nat) (x y:X)
 |min (x y:X)
 |max (x y:X)
 |max3 (x y z:X)
 |call (x:X) (args:List X)
structure AOper where
 dst:Option Nat
 op:AOp
 guard:Option (Nat × Bool)
 sync:Bool
inductive AC where
 |skip
 |region (draw:Bool) (ops:List AOper)
 |seq (a b:AC)
 |cond (c:X) (thn els:AC)
 |block (id:Nat) (body:AC)
 |loop (body:AC)
 |scope (body:AC)
 |exit (id:Nat)
 |ret
 |stop
inductive RV where
 |tmp (t:Nat)
 |cell (t:Nat) (ag:Bool) (z:Nat)
structure AFn where
 results:List RV
 body:AC
 own:Bool
 raw:Bool
structure AProg where
 fn:Nat->Option AFn
 prim:Nat->List V->Option V
def am (E:aA):X->V
 | .t i=>E i
 | .c v=>v
 | .f g=>.fn g []
def iL (E:aA)(d:Nat)(v:V):aA:=fun i=>if i=d then v else E i
def put (E:aA):Option Nat->V->aA
 |none,_=>E
 |some d,v=>iL E d v
def fZ (cs:List V)(off:Nat)(new:List V):List V:=cs.take off++new++cs.drop (off+new.length)
def cA (ag:Bool)(z:Nat)(cs:List V):Option V:=
 if ag then(if z<=cs.length then some (.agg (cs.take z))else none)else cs[0]?
def aR (op:BinOp)(k:IntKind)(x y:Int):Option Int:=
 let a:=BitVec.ofInt k.bits x
 let b:=BitVec.ofInt k.bits y
 match op with
 | .and=>some (k.wrap (a &&& b).toNat)
 | .or=>some (k.wrap (a |||b).toNat)
 | .xor=>some (k.wrap (a ^^^ b).toNat)
 | .andNot=>some (k.wrap (a &&& ~~~b).toNat)
 |_=>none
def tu (op:BinOp)(k:IntKind)(a b:Int):Option V:=
 match op with
 | .add=>some (.int k (k.wrap (a+b)))
 | .sub=>some (.int k (k.wrap (a-b)))
 | .mul=>some (.int k (k.wrap (a*b)))
 | .quo=>if b=0 then none else some (.int k (k.wrap (a.tdiv b)))
 | .rem=>if b=0 then none else some (.int k (a.tmod b))
 | .and=>(aR .and k a b).map (.int k)
 | .or=>(aR .or k a b).map (.int k)
 | .xor=>(aR .xor k a b).map (.int k)
 | .andNot=>(aR .andNot k a b).map (.int k)
 | .eql=>some (.bool (decide (a=b)))
 | .neq=>some (.bool (!decide (a=b)))
 | .lss=>some (.bool (decide (a<b)))
 | .leq=>some (.bool (decide (a<=b)))
 | .gtr=>some (.bool (decide (b<a)))
 | .geq=>some (.bool (decide (b<=a)))
 | .shl| .shr=>none
def cH (op:BinOp)(k:IntKind)(a b:Int):Option V:=
 if b<0 then none else
 match op with
 | .shl=>some (.int k (k.wrap (a*2^Nat.min b.toNat k.bits)))
 | .shr=>some (.int k (a.fdiv (2^Nat.min b.toNat k.bits)))
 |_=>none
def V.isNil : V->Option Bool
 | .nil=>some true
 | .sl (_ :: _)=>some false
 | .emp=>some false
 | .ref ..=>some false
 |_=>none
def fW : List V->List V->Option Bool
 | [],[]=>some true
 | .int k a :: xs,.int k' b :: ys=>if k=k' then(fW xs ys).map fun r=>decide (a=b)&&r else none
 |_,_=>none
def dP (bk:BK)(op:BinOp)(x y:V):Option V:=
 match bk with
 | .num=>
  match x,y with
  | .int k a,.int k' b=>
   match op with
   | .shl=>cH .shl k a b
   | .shr=>cH .shr k a b
   |op=>if k=k' then tu op k a b else none
  |_,_=>none
 | .bool=>
  match x,y with
  | .bool a,.bool b=>
   match op with
   | .eql=>some (.bool (a == b))
   | .neq=>some (.bool (!(a == b)))
   |_=>none
  |_,_=>none
 | .slice=>
  match x,y with
  | .nil,y=>y.isNil.bind fun b=>match op with
   | .eql=>some (.bool b)
   | .neq=>some (.bool !b)
   |_=>none
  |x,.nil=>x.isNil.bind fun b=>match op with
   | .eql=>some (.bool b)
   | .neq=>some (.bool !b)
   |_=>none
  |_,_=>none
 | .str=>
  match x,y with
  | .str a,.str b=>
   match op with
   | .eql=>some (.bool (a.toList == b.toList))
   | .neq=>some (.bool (!(a.toList == b.toList)))
   |_=>none
  |_,_=>none
 | .ints n=>
  match x,y with
  | .agg xs,.agg ys=>if xs.length=n then(fW xs ys).bind fun b=>match op with
   | .eql=>some (.bool b)
   | .neq=>some (.bool !b)
   |_=>none else none
  |_,_=>none
def uy (op:UnOp)(x:V):Option V:=
 match op,x with
 | .not,.bool b=>some (.bool !b)
 | .neg,.int k n=>some (.int k (k.wrap (0-n)))
 | .xor,.int k n=>(aR .xor k (if k.signed then -1 else k.max) n).map (.int k)
 |_,_=>none
def bm (H:ab):V->Option (V × ab)
 | .nil=>some (.sl [],H)
 | .emp=>some (.sl [],H)
 | .ref b z off len=>
  match H[b]? with
  |some (some k)=>
   if k.arr=true/\k.z=z/\off+len<=k.el.length then
    some (.sl ((k.el.drop off).take len),if k.wr then H.set b (some { k with wr:=false })else H)
   else none
  |_=>none
 | .agg _=>none
 | .tup _=>none
 |c=>some (c,H)
def cq (H:ab):List V->Option (List V × ab)
 | []=>some ([],H)
 |c :: cs=>(bm H c).bind fun(c',H1)=>(cq H1 cs).bind fun(cs',H2)=>some (c' :: cs',H2)
def aF (H:ab):V->Option (V × ab)
 | .agg cs=>(cq H cs).bind fun(cs',H1)=>some (.agg cs',H1)
 |v=>bm H v
def ah (H:ab):List V->Option (List V × ab)
 | []=>some ([],H)
 |v :: vs=>(aF H v).bind fun(v',H1)=>(ah H1 vs).bind fun(vs',H2)=>some (v' :: vs',H2)
def d6 (H:ab)(v:V):Option (V × ab):=
 (aF H v).bind fun(v',H1)=>if v'.pure=true then some (v',H1)else none
def gM (H:ab):List V->Option (List V × ab)
 | []=>some ([],H)
 |v :: vs=>(d6 H v).bind fun(v',H1)=>(gM H1 vs).bind fun(vs',H2)=>some (v' :: vs',H2)
def elems (H:ab):V->Option (List V)
 | .nil=>some []
 | .emp=>some []
 | .sl l=>some l
 | .ref b z off len=>
  match H[b]? with
  |some (some k)=>if k.arr=true/\k.z=z/\off+len<=k.el.length then some ((k.el.drop off).take len)else none
  |_=>none
 |_=>none
def fF (z:Nat):List V->Bool
 | []=>true
 |e :: _=>decide (e.cells.length=z)
def gz (cells:List V):List (Nat × Nat × V)->Option (List V)
 | []=>some cells
 | (off,size,v) :: rest=>
  if v.cells.length=size/\off+size<=cells.length/\v.isTup=false then gz (fZ cells off v.cells) rest else none
def er (z:Nat)(el:List V):List (Nat × V)->Option (List V)
 | []=>some el
 | (i,v) :: rest=>if v.cells.length=z/\i<el.length then er z (el.set i v) rest else none
def ck : V->Option Nat
 | .int _ n=>if 0<=n then some n.toNat else none
 |_=>none
def d9 (E:aA)(d:Nat):Option X->Option Nat
 |none=>some d
 |some x=>ck (am E x)
def jo (need bytes:Nat):Bool:=decide (need*bytes<=140737488355328)
def dx : V->V->Bool
 | .ptr b _ _,.ptr b' _ _=>b != b'
 | .eptr _,_=>true
 |_,_=>false
def nd (n0 z:Nat)(a x:V)(H:ab):Option (V × ab):=
 match a with
 | .ptr b i off=>
  match H[b]? with
  |some (some k)=>
   if x.isTup=false then
    (if k.arr=true\/b<n0 then d6 H x else some (x,H)).bind fun(v,H1)=>
     match H1[b]? with
     |some (some k1)=>
      match k1.el[i]? with
      |some e=>
       if k1.wr=true/\k1.arr=k.arr/\v.cells.length=z/\off+z<=e.cells.length then
        some (.undef,H1.set b (some { k1 with el:=k1.el.set i (e.withCells (fZ e.cells off v.cells)) }))
       else none
      |none=>none
     |_=>none
   else none
  |_=>none
 |_=>none
def aS (n0:Nat)(op:AOp)(E:aA)(H:ab):Option (V × ab):=
 match op with
 | .mv x=>some (am E x,H)
 | .pick c a b=>
  match am E c with
  | .bool t=>some (if t then am E a else am E b,H)
  |_=>none
 | .box z x=>
  if(am E x).cells.length=z/\(am E x).isTup=false then some (.ptr H.length 0 0,H++[some ⟨z,[am E x],false,true⟩])else none
 | .new z v=>if v.cells.length=z/\v.pure=true then some (.ptr H.length 0 0,H++[some ⟨z,[v],false,true⟩])else none
 | .build zero parts=>
  if zero.all V.cellPure=true then(gz zero (parts.map fun p=>(p.1,p.2.1,am E p.2.2))).map fun cs=>(.agg cs,H)else none
 | .bslice z len zero parts=>
  if zero.cells.length=z/\zero.pure=true then
   (gM H (parts.map fun p=>am E p.2)).bind fun(vs,H1)=>
    (er z (List.replicate len zero) ((parts.map (·.1)).zip vs)).map fun el=>(.ref H1.length z 0 len,H1++[some ⟨z,el,true,true⟩])
  else none
 | .plit z len zero parts=>
  if zero.cells.length=z/\zero.pure=true then
   (gM [] (parts.map fun p=>am E p.2)).bind fun q=>
    (er z (List.replicate len zero) ((parts.map (·.1)).zip q.1)).bind fun el=>if 0+len<=el.length then some (.sl ((el.drop 0).take len),H)else none
  else none
 | .load ag z x=>
  match am E x with
  | .eptr cs=>(cA ag z cs).map fun v=>(v,H)
  | .ptr b i off=>
   match H[b]? with
   |some (some k)=>
    match k.el[i]? with
    |some e=>(cA ag z (e.cells.drop off)).map fun v=>(v,H)
    |none=>none
   |_=>none
  |_=>none
 | .store z a x=>nd n0 z (am E a) (am E x) H
 | .sload ag z t=>
  match E t with
  | .eptr cs=>(cA ag z cs).map fun v=>(v,H)
  | .ptr b i off=>
   match H[b]? with
   |some (some k)=>
    match k.el[i]? with
    |some e=>(cA ag z (e.cells.drop off)).bind fun v=>if v.cells.all (V.lowB H.length)=true/\v.isTup=false then some (v,H)else none
    |none=>none
   |_=>none
  |_=>none
 | .storeN z a x av=>if(am E x).pure=true/\(av.all fun t=>dx (E t) (am E a))=true then nd n0 z (am E a) (am E x) H else none
 | .bin bk op x y=>(dP bk op (am E x) (am E y)).map fun v=>(v,H)
 | .un op x=>(uy op (am E x)).map fun v=>(v,H)
 | .conv k x=>
  match am E x with
  | .int _ n=>some (.int k (k.wrap n),H)
  |_=>none
 | .mkfn g caps=>if(caps.map (am E)).all V.isCell=true then some (.fn g (caps.map (am E)),H)else none
 | .mkslice z bytes zero l c=>
  match ck (am E l),ck (am E c)with
  |some l,some c=>
   if l<=c/\c*bytes<=281474976710656/\c<=9223372036854775807/\zero.cells.length=z/\zero.pure=true then
    some (.ref H.length z 0 l,H++[some ⟨z,List.replicate c zero,true,true⟩])
   else none
  |_,_=>none
 | .slice z x lo hi mx=>
  match am E x with
  | .nil=>
   match d9 E 0 lo,d9 E 0 hi,d9 E 0 mx with
   |some 0,some 0,some 0=>some (.nil,H)
   |_,_,_=>none
  | .sl l=>
   match d9 E 0 lo,d9 E l.length hi,d9 E l.length mx with
   |some lo,some hi,some mx=>
    if lo<=hi/\hi<=mx/\mx<=l.length/\(lo=0\/fF z ((l.take hi).drop lo)=true)then some (.sl ((l.take hi).drop lo),H)else none
   |_,_,_=>none
  | .ref b z' off len=>
   match d9 E 0 lo,d9 E len hi,mx with
   |some lo,some hi,none=>if lo<=hi/\hi<=len/\z'=z then some (.ref b z' (off+lo) (hi-lo),H)else none
   |_,_,_=>none
  |_=>none
 | .faddr off x=>
  match am E x with
  | .ptr b i o=>some (.ptr b i (o+off),H)
  | .eptr cs=>some (.eptr (cs.drop off),H)
  |_=>none
 | .field ag off z x=>
  match am E x with
  | .agg cs=>(cA ag z (cs.drop off)).map fun v=>(v,H)
  |_=>none
 | .iaddr z x i=>
  match am E x,ck (am E i)with
  | .sl l,some i=>
   match l[i]? with
   |some e=>if e.cells.length=z then some (.eptr e.cells,H)else none
   |none=>none
  | .ref b z' off len,some i=>if i<len/\z'=z then some (.ptr b (off+i) 0,H)else none
  |_,_=>none
 | .aiaddr n z x i=>
  match am E x,ck (am E i)with
  | .ptr b j off,some i=>if i<n then some (.ptr b j (off+i*z),H)else none
  | .eptr cs,some i=>if i<n then some (.eptr (cs.drop (i*z)),H)else none
  |_,_=>none
 | .index ag n z x i=>
  match am E x,ck (am E i)with
  | .agg cs,some i=>if i<n then(cA ag z (cs.drop (i*z))).map fun v=>(v,H)else none
  |_,_=>none
 | .sindex x i=>
  match am E x,ck (am E i)with
  | .str s,some i=>
   match s[i]? with
   |some b=>some (.int .u8 b.toNat,H)
   |none=>none
  |_,_=>none
 | .extract i x=>
  match am E x with
  | .tup vs=>(vs[i]?).map fun v=>(v,H)
  |_=>none
 | .len x=>
  match am E x with
  | .sl l=>some (.int .i64 l.length,H)
  | .nil=>some (.int .i64 0,H)
  | .emp=>some (.int .i64 0,H)
  | .ref _ _ _ len=>some (.int .i64 len,H)
  |_=>none
 | .slen x=>
  match am E x with
  | .str s=>some (.int .i64 s.size,H)
  |_=>none
 | .lenc n _=>some (.int .i64 n,H)
 | .capn x=>
  match am E x with
  | .nil=>some (.int .i64 0,H)
  |_=>none
 | .append z bytes x y=>
  (elems H (am E y)).bind fun ys=>
   if fF z ys=true then
    match am E x with
    | .nil=>
     if ys=[]then some (.nil,H)
     else if jo ys.length bytes=true then some (.ref H.length z 0 ys.length,H++[some ⟨z,ys,true,true⟩])else none
    | .ref b z' off len=>
     match H[b]? with
     |some (some k)=>
      if k.arr=true/\k.wr=true/\k.z=z/\z'=z/\off+len<=k.el.length/\jo (len+ys.length) bytes=true then
       if ys=[]then some (.ref b z' off len,H)
       else some (.ref H.length z 0 (len+ys.length),H.set b none++[some ⟨z,(k.el.drop off).take len++ys,true,true⟩])
      else none
     |_=>none
    |_=>none
   else none
 | .appendZ z bytes zero x n=>
  match am E x,ck (am E n)with
  | .nil,some m=>
   if 0<m/\m*bytes<=140737488355328/\m<=9223372036854775807/\zero.cells.length=z/\zero.pure=true then some (.ref H.length z 0 m,H++[some ⟨z,List.replicate m zero,true,true⟩])else none
  |_,_=>none
 | .copy z x y=>
  match am E x with
  | .ref b z' off len=>
   (elems H (am E y)).bind fun ys=>
    match H[b]? with
    |some (some k)=>
     if k.arr=true/\k.wr=true/\k.z=z/\z'=z/\fF z ys=true/\off+len<=k.el.length then
      some (.int .i64 (Nat.min ys.length len),H.set b (some { k with el:=fZ k.el off (ys.take len) }))
     else none
    |_=>none
  |_=>none
 | .min x y=>
  match am E x,am E y with
  | .int k a,.int k' b=>if k=k' then some (.int k (if b<a then b else a),H)else none
  |_,_=>none
 | .max x y=>
  match am E x,am E y with
  | .int k a,.int k' b=>if k=k' then some (.int k (if a<b then b else a),H)else none
  |_,_=>none
 | .max3 x y z=>
  match am E x,am E y,am E z with
  | .int k a,.int k' b,.int k'' c=>if k=k'/\k=k'' then some (.int k (if(if a<b then b else a)<c then c else if a<b then b else a),H)else none
  |_,_,_=>none
 | .call _ _=>none
def gd (o:AOper)(E:aA):Option Bool:=
 match o.guard with
 |none=>some true
 |some (t,want)=>
  match E t with
  | .bool b=>some (b == want)
  | .tup _=>some false
  |_=>none
def E0 (args:List V):aA:=fun i=>args.getD i .undef
def iY (E:aA)(H:ab):RV->Option V
 | .tmp t=>some (E t)
 | .cell t ag z=>(aS 0 (.load ag z (.t t)) E H).map (·.1)
def ia (E:aA)(H:ab):List RV->Option (List V)
 | []=>some []
 |r :: rs=>(iY E H r).bind fun v=>(ia E H rs).bind fun vs=>some (v :: vs)
def d8 (E:aA)(H:ab)(rs:List RV):Option V:=
 (ia E H rs).map fun vs=>match vs with
  | [v]=>v
  |vs=>.tup vs
def fL (n0:Nat)(H:ab)(acc:ab):V->Option (V × ab × ab)
 | .nil=>some (.nil,H,acc)
 | .ref b z off len=>
  match H[b]? with
  |some (some k)=>
   if n0<=b/\k.arr=true/\k.wr=true/\k.z=z/\off+len<=k.el.length then
    some (.ref (n0+acc.length) z 0 len,H.set b none,acc++[some { k with el:=(k.el.drop off).take len }])
   else if b<n0 then some (.ref b z off len,H,acc)else none
  |_=>none
 |c=>(bm H c).bind fun(c',H1)=>if c'.cellPure=true then some (c',H1,acc)else none
def fz (n0:Nat)(H acc:ab):List V->Option (List V × ab × ab)
 | []=>some ([],H,acc)
 |c :: cs=>(fL n0 H acc c).bind fun(c',H1,acc1)=>(fz n0 H1 acc1 cs).bind fun(cs',H2,acc2)=>some (c' :: cs',H2,acc2)
def fK (n0:Nat)(H acc:ab):V->Option (V × ab × ab)
 | .agg cs=>(fz n0 H acc cs).bind fun(cs',H1,acc1)=>some (.agg cs',H1,acc1)
 |v=>fL n0 H acc v
def fy (n0:Nat)(H acc:ab):List V->Option (List V × ab × ab)
 | []=>some ([],H,acc)
 |v :: vs=>(fK n0 H acc v).bind fun(v',H1,acc1)=>(fy n0 H1 acc1 vs).bind fun(vs',H2,acc2)=>some (v' :: vs',H2,acc2)
def fin (own:Bool)(n0:Nat)(H:ab)(v:V):Option (V × ab):=
 if own then
  match v with
  | .tup vs=>(fy n0 H [] vs).bind fun(vs',H1,acc)=>some (.tup vs',H1.take n0++acc)
  |v=>(fK n0 H [] v).bind fun(v',H1,acc)=>some (v',H1.take n0++acc)
 else
  match v with
  | .tup vs=>(gM H vs).bind fun(vs',H1)=>some (.tup vs',H1.take n0)
  |v=>(d6 H v).bind fun(v',H1)=>some (v',H1.take n0)
inductive AX where
 |normal
 |exit (id:Nat)
 |ret
 deriving DecidableEq
def AX.outOf (id:Nat):AX->AX
 | .exit id'=>if id'=id then .normal else .exit id'
 |x=>x
inductive Task where
 |call (g:Nat) (args:List V) (H:ab)
 |code (n0:Nat) (c:AC) (E:aA) (H:ab)
 |ops (n0:Nat) (draw:Bool) (l:List AOper) (E:aA) (H:ab)
inductive Res where
 |ret (v:V) (H:ab)
 |cd (x:AX) (E:aA) (H:ab)
def prep (S:AProg)(g:Nat)(H:ab)(args:List V):Option (List V × ab):=
 match S.fn g with
 |some f=>if f.raw then some (args,H)else ah H args
 |none=>ah H args
inductive Ev (S:AProg):Task->Res->Prop
 |skip {n0 E H}:Ev S (.code n0 .skip E H) (.cd .normal E H)
 |seqN {n0 a b E H E1 H1 r}:Ev S (.code n0 a E H) (.cd .normal E1 H1)->Ev S (.code n0 b E1 H1) r->Ev S (.code n0 (.seq a b) E H) r
 |seqX {n0 a b E H x E1 H1}:Ev S (.code n0 a E H) (.cd x E1 H1)->x≠.normal->Ev S (.code n0 (.seq a b) E H) (.cd x E1 H1)
 |cond {n0 c a b E H t r}:am E c=.bool t->Ev S (.code n0 (if t then a else b) E H) r->Ev S (.code n0 (.cond c a b) E H) r
 |block {n0 id c E H x E1 H1}:Ev S (.code n0 c E H) (.cd x E1 H1)->Ev S (.code n0 (.block id c) E H) (.cd (x.outOf id) E1 H1)
 |scope {n0 c E H x E1 H1}:Ev S (.code n0 c E H) (.cd x E1 H1)->Ev S (.code n0 (.scope c) E H) (.cd x E1 H1)
 |loopN {n0 c E H E1 H1 r}:Ev S (.code n0 c E H) (.cd .normal E1 H1)->Ev S (.code n0 (.loop c) E1 H1) r->Ev S (.code n0 (.loop c) E H) r
 |loopX {n0 c E H x E1 H1}:Ev S (.code n0 c E H) (.cd x E1 H1)->x≠.normal->Ev S (.code n0 (.loop c) E H) (.cd x E1 H1)
 |exit {n0 id E H}:Ev S (.code n0 (.exit id) E H) (.cd (.exit id) E H)
 |ret {n0 E H}:Ev S (.code n0 .ret E H) (.cd .ret E H)
 |region {n0 d l E H E1 H1}:Ev S (.ops n0 d l E H) (.cd .normal E1 H1)->Ev S (.code n0 (.region d l) E H) (.cd .normal E1 H1)
 |opNil {n0 d E H}:Ev S (.ops n0 d [] E H) (.cd .normal E H)
 |opSkip {n0 d o l E H r}:gd o E=some false->Ev S (.ops n0 d l (put E o.dst .undef) H) r->Ev S (.ops n0 d (o :: l) E H) r
 |opDo {n0 d o l E H v H1 r}:gd o E=some true->aS n0 o.op E H=some (v,H1)->(d=true->o.sync=false->H <+: H1) ->
  Ev S (.ops n0 d l (put E o.dst v) H1) r->Ev S (.ops n0 d (o :: l) E H) r
 |opCall {n0 d o l E H x xs g caps vs H1 v H2 r}:gd o E=some true->o.op=.call x xs->am E x=.fn g caps ->
  prep S g H (xs.map (am E)++caps)=some (vs,H1)->Ev S (.call g vs H1) (.ret v H2)->(d=true->o.sync=false->H <+: H2) ->
  Ev S (.ops n0 d l (put E o.dst v) H2) r->Ev S (.ops n0 d (o :: l) E H) r
 |call {g f args H x E1 H1 v0 v H2}:S.fn g=some f->Ev S (.code H.length f.body (E0 args) H) (.cd x E1 H1)->(x=.normal\/x=.ret) ->
  d8 E1 H1 f.results=some v0->fin f.own H.length H1 v0=some (v,H2)->Ev S (.call g args H) (.ret v H2)
 |emp {g pre post H r}:Ev S (.call g (pre++.nil :: post) H) r->Ev S (.call g (pre++.emp :: post) H) r->Ev S (.call g (pre++.sl [] :: post) H) r
 |prim {g args H v}:S.prim g args=some v->Ev S (.call g args H) (.ret v H)
@[simp] def dn (d f:Nat):AOper:=⟨some d,.call (.f f) [],none,false⟩
@[simp] def oB0 (d f:Nat):AOper:=⟨some d,.call (.f f) [],none,true⟩
@[simp] def oC0 (d g f:Nat):AOper:=⟨some d,.call (.f f) [],some (g,false),false⟩
@[simp] def oD0 (d g f:Nat):AOper:=⟨some d,.call (.f f) [],some (g,true),false⟩
@[simp] def aq (d f a:Nat):AOper:=⟨some d,.call (.f f) [.t a],none,false⟩
@[simp] def ij (d f a:Nat):AOper:=⟨some d,.call (.f f) [.t a],none,true⟩
@[simp] def dN (d g f a:Nat):AOper:=⟨some d,.call (.f f) [.t a],some (g,false),false⟩
@[simp] def kN (d g f a:Nat):AOper:=⟨some d,.call (.f f) [.t a],some (g,true),false⟩
@[simp] def aG (d f a b:Nat):AOper:=⟨some d,.call (.f f) [.t a,.t b],none,false⟩
@[simp] def eO (d f a b:Nat):AOper:=⟨some d,.call (.f f) [.t a,.t b],none,true⟩
@[simp] def BG (d g f a b:Nat):AOper:=⟨some d,.call (.f f) [.t a,.t b],some (g,false),false⟩
@[simp] def p6 (d g f a b:Nat):AOper:=⟨some d,.call (.f f) [.t a,.t b],some (g,true),false⟩
@[simp] def bu (d f a b c:Nat):AOper:=⟨some d,.call (.f f) [.t a,.t b,.t c],none,false⟩
@[simp] def dO (d f a b c:Nat):AOper:=⟨some d,.call (.f f) [.t a,.t b,.t c],none,true⟩
@[simp] def oC3 (d g f a b c:Nat):AOper:=⟨some d,.call (.f f) [.t a,.t b,.t c],some (g,false),false⟩
@[simp] def oD3 (d g f a b c:Nat):AOper:=⟨some d,.call (.f f) [.t a,.t b,.t c],some (g,true),false⟩
@[simp] def kt (d f a b c e:Nat):AOper:=⟨some d,.call (.f f) [.t a,.t b,.t c,.t e],none,false⟩
@[simp] def oB4 (d f a b c e:Nat):AOper:=⟨some d,.call (.f f) [.t a,.t b,.t c,.t e],none,true⟩
@[simp] def oC4 (d g f a b c e:Nat):AOper:=⟨some d,.call (.f f) [.t a,.t b,.t c,.t e],some (g,false),false⟩
@[simp] def oD4 (d g f a b c e:Nat):AOper:=⟨some d,.call (.f f) [.t a,.t b,.t c,.t e],some (g,true),false⟩
@[simp] def oA5 (d f a b c e i:Nat):AOper:=⟨some d,.call (.f f) [.t a,.t b,.t c,.t e,.t i],none,false⟩
@[simp] def oB5 (d f a b c e i:Nat):AOper:=⟨some d,.call (.f f) [.t a,.t b,.t c,.t e,.t i],none,true⟩
@[simp] def oC5 (d g f a b c e i:Nat):AOper:=⟨some d,.call (.f f) [.t a,.t b,.t c,.t e,.t i],some (g,false),false⟩
@[simp] def oD5 (d g f a b c e i:Nat):AOper:=⟨some d,.call (.f f) [.t a,.t b,.t c,.t e,.t i],some (g,true),false⟩
@[simp] def oA6 (d f a b c e i j:Nat):AOper:=⟨some d,.call (.f f) [.t a,.t b,.t c,.t e,.t i,.t j],none,false⟩
@[simp] def oB6 (d f a b c e i j:Nat):AOper:=⟨some d,.call (.f f) [.t a,.t b,.t c,.t e,.t i,.t j],none,true⟩
@[simp] def oC6 (d g f a b c e i j:Nat):AOper:=⟨some d,.call (.f f) [.t a,.t b,.t c,.t e,.t i,.t j],some (g,false),false⟩
@[simp] def oD6 (d g f a b c e i j:Nat):AOper:=⟨some d,.call (.f f) [.t a,.t b,.t c,.t e,.t i,.t j],some (g,true),false⟩
@[simp] def oE (d g a:Nat):AOper:=⟨some d,.mv (.t a),some (g,false),false⟩
@[simp] def oF (d g a:Nat):AOper:=⟨some d,.mv (.t a),some (g,true),false⟩
@[simp] def oG (d g:Nat)(b:Bool)(z a:Nat):AOper:=⟨some d,.load b z (.t a),some (g,false),false⟩
@[simp] def oH (d g:Nat)(b:Bool)(z a:Nat):AOper:=⟨some d,.load b z (.t a),some (g,true),false⟩
@[simp] def oI (d z a:Nat):AOper:=⟨some d,.load true z (.t a),none,false⟩
@[simp] def oJ (d a:Nat):AOper:=⟨some d,.load false 1 (.t a),none,false⟩
@[simp] def oK (z a x:Nat)(b:Bool):AOper:=⟨none,.store z (.t a) (.t x),none,b⟩
@[simp] def oL (d:Nat):AOper:=⟨some d,.new 7 (.agg [.bool false,.nil,.int .i64 0,.bool false,.nil,.int .i64 0,.bool false]),none,false⟩
@[simp] def oM (d:Nat):AOper:=⟨some d,.new 3 (.agg [.bool false,.nil,.int .i64 0]),none,false⟩
@[simp] def oN (d:Nat)(o:BinOp)(a b:Nat):AOper:=⟨some d,.bin .num o (.t a) (.t b),none,false⟩
@[simp] def oO (d:Nat)(o:BinOp)(a:Nat)(n:Int):AOper:=⟨some d,.bin .num o (.t a) (.c (.int .i64 n)),none,false⟩
@[simp] def oQ (d k a:Nat):AOper:=⟨some d,.faddr k (.t a),none,false⟩
@[simp] def oR (d k a:Nat):AOper:=⟨some d,.extract k (.t a),none,false⟩
@[simp] def oT (d a:Nat):AOper:=⟨some d,.len (.t a),none,false⟩
@[simp] def oU (d z a:Nat):AOper:=⟨some d,.box z (.t a),none,false⟩
@[simp] def oV (d z a i:Nat):AOper:=⟨some d,.iaddr z (.t a) (.t i),none,false⟩
@[simp] def oW (d a:Nat):AOper:=⟨some d,.un .not (.t a),none,false⟩
@[simp] def oX (d a b:Nat):AOper:=⟨some d,.pick (.t a) (.c (.bool true)) (.t b),none,false⟩
@[simp] def oY (d a b:Nat):AOper:=⟨some d,.pick (.t a) (.t b) (.c (.bool false)),none,false⟩
@[simp] def oZ (d:Nat)(b:Bool):AOper:=⟨some d,.mv (.c (.bool b)),none,false⟩
@[simp] def mV (d t:Nat):AOper:=⟨some d,.mv (.t t),none,false⟩
@[simp] def oP (d:Nat)(op:AOp):AOper:=⟨some d,op,none,false⟩
@[simp] def oS (d:Nat)(op:AOp):AOper:=⟨some d,op,none,true⟩
@[simp] def gT (d t:Nat)(op:AOp):AOper:=⟨some d,op,some (t,true),false⟩
@[simp] def gF (d t:Nat)(op:AOp):AOper:=⟨some d,op,some (t,false),false⟩
@[simp] def nF (l:List AOper):AC:=.region false l
@[simp] def nT (l:List AOper):AC:=.region true l
@[simp] def nC (t:Nat)(a b:AC):AC:=.cond (.t t) a b
@[simp] def nR (l:List AOper):AC:=.seq (.region false l) .ret
@[simp] def nS (a b:AC):AC:=.seq a b
@[simp] def nI:List V:=[.bool false,.nil,.int .i64 0,.bool false,.nil,.int .i64 0,.bool false]
@[simp] def nD:List V:=[.bool false,.nil,.int .i64 0]
@[simp] def nG (r:List RV)(c:AC):AFn:=⟨r,c,false,false⟩
@[simp] def nB:List V:=[.bool false,.nil]
@[simp] def nL (z a:Nat):AOp:=.load true z (.t a)
@[simp] def nM (z a:Nat):AOp:=.load false z (.t a)
@[simp] def nA (o a:Nat):AOp:=.faddr o (.t a)
@[simp] def nX (b:Go.BinOp)(a:Nat)(v:Int):AOp:=.bin .num b (.t a) (.c (.int .i64 v))
@[simp] def nY (b:Go.BinOp)(a c:Nat):AOp:=.bin .num b (.t a) (.t c)
@[simp] def nU (a:Nat):AOp:=.un .not (.t a)
@[simp] def nV (v:Int):AOp:=.mv (.c (.int .i64 v))
@[simp] def nP (a:Nat):AOp:=.call (.f a) []
@[simp] def nP1 (f a:Nat):AOp:=.call (.f f) [.t a]
@[simp] def nP2 (f a b:Nat):AOp:=.call (.f f) [.t a,.t b]
@[simp] def nE (i a:Nat):AOp:=.extract i (.t a)
def kR : ByteArray:=⟨#[0,1,2,2,3,3,3,3,4,4,4,4,4,4,4,4,5,5,5,5,5,5,5,5,5,5,5,5,5,5,5,5,6,6,6,6,6,6,6,6,6,6,6,6,6,6,6,6,6,6,6,6,6,6,6,6,6,6,6,6,6,6,6,6,7,7,7,7,7,7,7,7,7,7,7,7,7,7,7,7,7,7,7,7,7,7,7,7,7,7,7,7,7,7,7,7,7,7,7,7,7,7,7,7,7,7,7,7,7,7,7,7,7,7,7,7,7,7,7,7,7,7,7,7,7,7,7,7,8,8,8,8,8,8,8,8,8,8,8,8,8,8,8,8,8,8,8,8,8,8,8,8,8,8,8,8,8,8,8,8,8,8,8,8,8,8,8,8,8,8,8,8,8,8,8,8,8,8,8,8,8,8,8,8,8,8,8,8,8,8,8,8,8,8,8,8,8,8,8,8,8,8,8,8,8,8,8,8,8,8,8,8,8,8,8,8,8,8,8,8,8,8,8,8,8,8,8,8,8,8,8,8,8,8,8,8,8,8,8,8,8,8,8,8,8,8,8,8,8,8,8,8,8,8,8,8]⟩
def ku (l:List (Nat × AFn))(g:Nat):Option AFn:=(l.find? fun p=>p.1 == g).map (·.2)
