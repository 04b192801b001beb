/- Parts of the proof: FpTp1. -/
import Derived.Test.YtpdchdfajhbglaaGreatDoorFe
namespace Go.Abs.W
set_option maxHeartbeats 4000000
theorem getP {H H':Heap}{b:Nat}{x:Option Blk}(hp:H <+: H')(hb:H[b]?=some x):H'[b]?=some x/\∀G:Heap,(H'++G)[b]?=some x:=by
 obtain⟨G,rfl⟩:=hp;have h:(H++G)[b]?=some x:=by rw[List.getElem?_append_left (List.getElem?_eq_some_iff.1 hb).1];exact hb
 exact⟨h,fun G'=>by rw[List.getElem?_append_left (List.getElem?_eq_some_iff.1 h).1];exact h⟩
set_option maxRecDepth 20000
theorem q7a (n:Int)(m:Nat)(hm:m=n.natAbs)(h1:-1073741824<=n)(h2:n<=1073741824):CQ prog q29 [.int .i64 n] (.int .u64 m):=by
 refine qaf rfl fun H=>?_
 by_cases h:n<0
 ·have e:IntKind.i64.wrap (-n)=(m:Int):=by rw[wrap_i64]<;>omega
  have e2:IntKind.u64.wrap (m:Int)=m:=by rw[qbe]<;>omega
  simp[h,e,e2]
 ·have e2:IntKind.u64.wrap n=m:=by rw[qbe]<;>omega
  simp[h,e2]
theorem qajs (a b:Nat):CQ prog q5s [.int .u64 a,.int .u64 b] (.int .u64 (Nat.gcd a b)):=by
 refine qaf rfl fun H=>?_
 simp;refine qc5 (fun k E H'=>H'=H/\∃x:Nat,E 0=.int .u64 x/\E 1=.int .u64 k/\Nat.gcd x k=Nat.gcd a b) b ?_ ?_
 ·simp;exact⟨a,rfl,rfl⟩
 ·rintro k E H' ⟨rfl,x,e0,e1,hg⟩;refine qas ?_;by_cases hk:k=0
  ·subst hk;rw[Nat.gcd_zero_right]at hg;simp[qkg,e0,e1,hg]
  ·have k1:¬(k:Int)=0:=by omega
   have hm:Int.tmod (x:Int) k=((x%k:Nat):Int):=rfl;simp[qkg,e0,e1,hk];refine⟨x%k,Nat.mod_lt _ (by omega),k,rfl,rfl,?_⟩;rw[<-hg,Nat.gcd_comm x k,Nat.gcd_rec k x,Nat.gcd_comm]
def rvB (n d:Int):Bool:=decide (1<=d)&&decide (d<=1073741824)&&decide (-1073741824<=n)&&decide (n<=1073741824)&&decide (Nat.gcd n.natAbs d.natAbs=1)
theorem qzo (n d:Int):CQ prog q0n [.agg [.int .i64 n,.int .i64 d]] (.bool (rvB n d)):=by
 refine qaf rfl fun H=>?_
 by_cases h1:1<=d
 case neg=>simp[h1,rvB]
 by_cases h2:d<=1073741824
 case neg=>simp[h1,h2,rvB]
 by_cases h3:-1073741824<=n
 case neg=>simp[h1,h2,h3,rvB]
 by_cases h4:n<=1073741824
 case neg=>simp[h1,h2,h3,h4,rvB]
 have⟨a,ha⟩:∃a,a=n.natAbs:=⟨_,rfl⟩
 have⟨b,hb⟩:∃b,b=d.natAbs:=⟨_,rfl⟩
 have e:rvB n d=decide (Nat.gcd a b=1):=by simp[rvB,h1,h2,h3,h4,ha,hb]
 rw[e];simp[h1,h2,h3,h4];refine qaa rfl rfl rfl (q7a n a ha h3 h4) ?_;simp;refine qaa rfl rfl rfl (q7a d b hb (by omega) h2) ?_;simp;refine qaa rfl rfl rfl (qajs a b) ?_;have e2:((Nat.gcd a b:Nat):Int)=1↔Nat.gcd a b=1:=by omega
 simp[e2]
structure Op6 where
 kind:Int
 a:Int
 b:Int
 n:Int
 cn:Int
 cd:Int
def Op6.v (o:Op6):V:=.agg [.int .i64 o.kind,.int .i64 o.a,.int .i64 o.b,.int .i64 o.n,.int .i64 o.cn,.int .i64 o.cd]
structure Tp where
 ins:Int
 ops:List Op6
 outs:List Int
def iv64 (i:Int):V:=.int .i64 i
def Tp.v (t:Tp):V:=.agg [.int .i64 t.ins,.sl (t.ops.map Op6.v),.sl (t.outs.map iv64)]
def opK (k:Int):Int:=if k=1 then 0 else if 3<=k/\k<=6 then 2 else if 7<=k/\k<=13 then 1 else -1
theorem quy (k:Int):CQ prog qu7 [.int .i64 k] (.int .i64 (opK k)):=by
 refine qaf rfl fun H=>?_
 by_cases h1:k=1
 ·subst h1;simp[opK]
 by_cases h2:3<=k/\k<=6
 ·have:k=3\/k=4\/k=5\/k=6:=by omega
  rcases this with rfl|rfl|rfl|rfl<;>simp[opK]
 by_cases h3:7<=k/\k<=13
 ·have:k=7\/k=8\/k=9\/k=10\/k=11\/k=12\/k=13:=by omega
  rcases this with rfl|rfl|rfl|rfl|rfl|rfl|rfl<;>simp[opK]
 ·have n3:¬k=3:=by omega
  have n4:¬k=4:=by omega
  have n5:¬k=5:=by omega
  have n6:¬k=6:=by omega
  have n7:¬k=7:=by omega
  have n8:¬k=8:=by omega
  have n9:¬k=9:=by omega
  have n10:¬k=10:=by omega
  have n11:¬k=11:=by omega
  have n12:¬k=12:=by omega
  have n13:¬k=13:=by omega
  simp[opK,h1,h2,h3,n3,n4,n5,n6,n7,n8,n9,n10,n11,n12,n13]
theorem q2r (k:Int):opK k=-1\/opK k=0\/opK k=1\/opK k=2:=by
 unfold opK;split;simp;split;simp;split<;>simp
def prpB (o:Op6)(n:Int):Bool:=
 decide (0<=opK o.kind)&&(if opK o.kind=0 then rvB o.cn o.cd else decide (o.cn=0)&&decide (o.cd=0)) &&
 (if o.kind=8 then decide (0<=o.n)&&decide (o.n<=16)else decide (o.n=0)) &&
 (if 0<opK o.kind then decide (0<=o.a)&&decide (o.a<n)else decide (o.a=0)) &&
 (if 1<opK o.kind then decide (0<=o.b)&&decide (o.b<n)else decide (o.b=0))
theorem qagp {k:Int}(h:opK k=0):k=1:=by
 unfold opK at h;split at h
 ·assumption
 ·split at h
  ·omega
  ·split at h<;>omega
theorem qacb {k:Int}(h:opK k=2):¬k=8:=by
 intro e;subst e;revert h;decide
theorem qab5 (o:Op6)(n:Int):CQ prog q0j [o.v,.int .i64 n] (.bool (prpB o n)):=by
 obtain⟨kd,a,b,m,cn,cd⟩:=o;refine qaf rfl fun H=>?_
 have ck:=quy kd;simp[Op6.v];refine zq ck ?_;rcases q2r kd with hk|hk|hk|hk
 ·simp[hk,prpB]
 ·have k1:=qagp hk;subst k1;simp[hk];refine qaa rfl rfl rfl (qzo cn cd) ?_;cases hr:rvB cn cd
  ·simp[hk,prpB,hr]
  ·simp[hk,prpB,hr];grind
 ·by_cases k8:kd=8
  ·subst k8;by_cases m1:m<0
   ·have:¬0<=m:=by omega
    simp[hk,prpB,m1,this]
   by_cases m2:16<m
   ·have:¬m<=16:=by omega
    simp[hk,prpB,m1,m2,this]
   by_cases a1:a<0
   ·have:¬0<=a:=by omega
    simp[hk,prpB,m1,m2,a1,this]
   by_cases a2:n<=a
   ·have:¬a<n:=by omega
    simp[hk,prpB,m1,m2,a1,a2,this]
   have m3:0<=m:=by omega
   have m4:m<=16:=by omega
   have a3:0<=a:=by omega
   have a4:a<n:=by omega
   simp[hk,prpB,m1,m2,a1,a2,m3,m4,a3,a4];grind
  ·by_cases a1:a<0
   ·have:¬0<=a:=by omega
    simp[hk,prpB,k8,a1,this]
   by_cases a2:n<=a
   ·have:¬a<n:=by omega
    simp[hk,prpB,k8,a1,a2,this]
   have a3:0<=a:=by omega
   have a4:a<n:=by omega
   simp[hk,prpB,k8,a1,a2,a3,a4];grind
 ·have k8:=qacb hk;by_cases a1:a<0
  ·have:¬0<=a:=by omega
   simp[hk,prpB,k8,a1,this]
  by_cases a2:n<=a
  ·have:¬a<n:=by omega
   simp[hk,prpB,k8,a1,a2,this]
  by_cases b1:b<0
  ·have:¬0<=b:=by omega
   simp[hk,prpB,k8,a1,a2,b1,this]
  by_cases b2:n<=b
  ·have:¬b<n:=by omega
   simp[hk,prpB,k8,a1,a2,b1,b2,this]
  have a3:0<=a:=by omega
  have a4:a<n:=by omega
  have b3:0<=b:=by omega
  have b4:b<n:=by omega
  simp[hk,prpB,k8,a1,a2,a3,a4,b1,b2,b3,b4];grind
def prpL (n:Int):List Op6->Bool
 | []=>true
 |o :: l=>prpB o n&&prpL (n+1) l
def Tp.valid (t:Tp):Bool:=
 decide (0<=t.ins)&&decide (t.ins<=8)&&decide (t.ops.length<=200)&&decide (t.outs.length<=200)&&prpL t.ins t.ops&&t.outs.all fun k=>decide (0<=k)&&decide (k<t.ins+t.ops.length)
theorem qab4 : ∀{l:List Op6} {n:Int},prpL n l=true->∀{i:Nat} (h:i<l.length),prpB l[i] (n+i)=true
 |o :: l,n,h,0,_=>by
  simp only[prpL,Bool.and_eq_true]at h;simpa using h.1
 |o :: l,n,h,i+1,hi=>by
  simp only[prpL,Bool.and_eq_true]at h;have:=qab4 h.2 (i:=i) (by simpa using hi);simpa[Int.add_assoc,Int.add_comm,Int.add_left_comm]using this
theorem q6o {H:Heap}{g:Nat}{caps:List V}{p:Int->Bool}(l:List Int)(hl:l.length<=9223372036854775807)(h:∀x ∈ l,Cb H g caps [.int .i64 x] (.bool (p x))) :
 Ev prog (.call qnl [.sl (l.map iv64),.fn g caps] H) (.ret (idxV (l.findIdx? p)) H):=by
 refine qjn rfl ?_;simp;refine WK_up (fun i E H'=>H'=H/\E 0=.sl (l.map iv64)/\E 1=.fn g caps/\E 7=.int .i64 l.length/\E 8=.int .i64 i/\(∀j x,j<i->l[j]?=some x->p x=false)) l.length ?_ ?_
 ·simp
 ·rintro i E H' hi ⟨rfl,h0,h1,h7,h8,hp⟩;rcases Nat.lt_or_ge i l.length with hlt|hge
  ·have e2:IntKind.i64.wrap ((i:Int)+1)=((i+1:Nat):Int):=by rw[wrap_i64]<;>omega
   simp[qci,h7,h8,h0,h1,hlt,iv64];refine WL_cb (h l[i] (List.getElem_mem hlt)) (List.prefix_refl _) rfl rfl ?_;simp[h0,h1,h7,h8,e2];refine⟨fun hpx=>?_,fun hpx=>?_⟩
   ·rw[show l.findIdx? p=some i from ?_]
    ·simp[idxV]
    ·rw[List.findIdx?_eq_some_iff_getElem];refine⟨hlt,hpx,?_⟩
     ·intro j hj;have:=hp j l[j] hj (List.getElem?_eq_getElem _);simp[this]
   ·intro j y hj hy;rcases Nat.lt_or_ge j i with hji|hji
    ·exact hp j y hji hy
    ·have:j=i:=by omega
     subst this;rw[List.getElem?_eq_getElem hlt]at hy;injection hy with hy;rw[<-hy];exact hpx
  ·have hin:i=l.length:=by omega
   subst hin;have e1:l.findIdx? p=none:=by
    simp only[List.findIdx?_eq_none_iff];intro x hx;obtain⟨j,hj,rfl⟩:=List.getElem_of_mem hx;exact hp j _ hj (List.getElem?_eq_getElem _)
   simp[qci,h7,h8,e1,idxV]
theorem qyc {H:Heap}{g:Nat}{caps:List V}{p:Int->Bool}(l:List Int)(hl:l.length<=9223372036854775807)(h:∀x ∈ l,Cb H g caps [.int .i64 x] (.bool (p x))) :
 Ev prog (.call qj8 [.sl (l.map iv64),.fn g caps] H) (.ret (.bool (l.any p)) H):=by
 refine qjn rfl ?_;simp;refine WL_ev rfl rfl rfl (q6o l hl h) ?_;rcases hq:l.findIdx? p with _|i
 ·have e1:l.any p=false:=by simpa[List.findIdx?_eq_none_iff]using hq
  simp[idxV,e1]
 ·have e1:l.any p=true:=by
   rw[List.findIdx?_eq_some_iff_getElem]at hq;obtain⟨h1,h2,_⟩:=hq;exact List.any_eq_true.2 ⟨_,List.getElem_mem h1,h2⟩
  simp[idxV,e1]
theorem qafr {H:Heap}{b:Nat}{t:Tp}(hb:H[b]?=some (some ⟨3,[.agg [.int .i64 t.ins,.sl (t.ops.map Op6.v),.sl (t.outs.map iv64)]],false,true⟩))(h0:0<=t.ins)(h8:t.ins<=8)(hl:t.ops.length<=200)(k:Int) :
 Cb H qxb [.ptr b 0 0] [.int .i64 k] (.bool (!(decide (0<=k)&&decide (k<t.ins+t.ops.length)))):=by
 intro H' hpre;obtain⟨p1,p2⟩:=getP hpre hb;refine⟨rfl,qjn rfl ?_⟩;have e:IntKind.i64.wrap (t.ins+t.ops.length)=t.ins+t.ops.length:=by rw[wrap_i64]<;>omega
 by_cases k0:k<0
 ·have:¬0<=k:=by omega
  simp[k0,this]
 ·have k1:0<=k:=by omega
  by_cases k2:t.ins+t.ops.length<=k
  ·have:¬k<t.ins+t.ops.length:=by omega
   simp[k0,k1,p1,e,k2,this]
  ·have:k<t.ins+t.ops.length:=by omega
   simp[k0,k1,p1,e,k2,this]
theorem qrk (t:Tp)(lo:t.ops.length<=9223372036854775807)(lu:t.outs.length<=9223372036854775807):CQ prog q27 [t.v] (.bool t.valid):=by
 refine qaf rfl fun H=>?_
 by_cases h0:t.ins<0
 ·have:¬0<=t.ins:=by omega
  simp[Tp.v,h0,Tp.valid,this]
 have h0':0<=t.ins:=by omega
 by_cases h8:8<t.ins
 ·have:¬t.ins<=8:=by omega
  simp[Tp.v,h0,h0',h8,Tp.valid,this]
 have h8':t.ins<=8:=by omega
 by_cases hl:200<t.ops.length
 ·have:¬t.ops.length<=200:=by omega
  have h2:(200:Int)<t.ops.length:=by omega
  simp[Tp.v,h0,h0',h8,h8',h2,Tp.valid,this]
 have hl':t.ops.length<=200:=by omega
 have hl2:¬(200:Int)<t.ops.length:=by omega
 by_cases hu:200<t.outs.length
 ·have:¬t.outs.length<=200:=by omega
  have h2:(200:Int)<t.outs.length:=by omega
  simp[Tp.v,h0,h0',h8,h8',hl',hl2,h2,Tp.valid,this]
 have hu':t.outs.length<=200:=by omega
 have hu2:¬(200:Int)<t.outs.length:=by omega
 have ev:t.valid=(prpL t.ins t.ops&&t.outs.all fun k=>decide (0<=k)&&decide (k<t.ins+t.ops.length)):=by simp[Tp.valid,h0',h8',hl',hu']
 rw[ev];simp[Tp.v,h0,h8,hl2,hu2];refine WK_up (fun i E H'=>E 1=.ptr H.length 0 0/\E 26=.sl (t.ops.map Op6.v)/\E 27=.int .i64 t.ops.length/\E 28=.int .i64 i/\(H++[some ⟨3,[.agg [.int .i64 t.ins,.sl (t.ops.map Op6.v),.sl (t.outs.map iv64)]],false,true⟩]) <+: H'/\prpL t.ins t.ops=prpL (t.ins+i) (t.ops.drop i)) t.ops.length ?_ ?_
 ·simp
 ·rintro i E H' hi ⟨e1,e26,e27,e28,hp,hq⟩;obtain⟨pb,pb2⟩:=getP (b:=H.length) (x:=some ⟨3,[.agg [.int .i64 t.ins,.sl (t.ops.map Op6.v),.sl (t.outs.map iv64)]],false,true⟩) hp (by simp);rcases Nat.lt_or_ge i t.ops.length with hlt|hge
  ·have g1:IntKind.i64.wrap ((i:Int)+1)=(i:Int)+1:=by rw[wrap_i64]<;>omega
   have g2:IntKind.i64.wrap (t.ins+i)=t.ins+i:=by rw[wrap_i64]<;>omega
   have cp:=qab5 t.ops[i] (t.ins+i);have ed:t.ops.drop i=t.ops[i] :: t.ops.drop (i+1):=List.drop_eq_getElem_cons hlt;rw[ed,prpL]at hq;simp only[Op6.v]at cp;simp[qik,e1,e26,e27,e28,hlt,Op6.v,pb2,g2];refine zq cp ?_;cases hb:prpB t.ops[i] (t.ins+i)
   ·rw[hb,Bool.false_and]at hq;simp[hq];exact qb5 (qd9 ((List.prefix_append _ _).trans hp))
   ·rw[hb,Bool.true_and]at hq;simp[e1,e26,e27,e28,g1];exact⟨qd9 hp,by rw[hq,Int.add_assoc]⟩
  ·obtain rfl:i=t.ops.length:=by omega
   rw[List.drop_length,prpL]at hq;simp[qik,e1,e27,e28,pb];have cc:=qyc (H:=H') t.outs lu fun k _=>qafr pb h0' h8' hl' k
   refine WL_ev rfl rfl rfl cc ?_;simp[hq,qb5 ((List.prefix_append _ _).trans hp)];rw[Bool.eq_iff_iff];simp[List.any_eq_true];constructor<;>rintro⟨x,hx,h⟩<;>exact⟨x,hx,by omega⟩
end Go.Abs.W
