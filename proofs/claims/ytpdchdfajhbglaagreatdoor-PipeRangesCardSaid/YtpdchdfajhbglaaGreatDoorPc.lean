/- Parts of the proof: FpTp4, FpTp5. -/
import Derived.Test.YtpdchdfajhbglaaGreatDoorPb
import Derived.Test.YtpdchdfajhbglaaGreatDoorPa
import Derived.Test.YtpdchdfajhbglaaGreatDoorSc
namespace Go.Abs.W
set_option maxHeartbeats 4000000
set_option maxRecDepth 20000
attribute [local simp] qby
theorem tkI {l:List Iv}:V.sl (List.take l.length (List.map Iv.v l))=ivs l:=by rw[List.take_of_length_le (by simp)];rfl
def SmL (l:List Iv):Prop:=l≠[]/\l.length<=1000000
theorem qaod (p:Pp)(t:Dy)(w:p.W)(wt:t.W)(i:Nat)(h0:0<p.segs.length)(hi:(p.segs.findIdx? fun s=>!decide (s.to.cmp t<0))=some i)(ns:SmL p.start)(nb:∀s ∈ p.segs,SmL s.tube/\SmL s.en):CQ prog q9w [p.v,t.v] (ivs (p.at t)):=by
 refine qaf rfl fun H=>?_
 have⟨s,hs⟩:∃s,p.segs[0]?=some s:=⟨_,List.getElem?_eq_getElem h0⟩
 have hlt:i<p.segs.length:=(List.findIdx?_eq_some_iff_getElem.1 hi).1;have⟨g,hg⟩:∃g,p.segs[i]?=some g:=⟨_,List.getElem?_eq_getElem hlt⟩
 have hg':p.segs[i]=g:=by rw[List.getElem?_eq_getElem hlt]at hg;injection hg
 have wg:=w.at hg;have hn:p.num t=i:=by simp[Pp.num,hi]
 simp;refine qaa rfl rfl rfl (q8t p s hs) ?_;simp;refine qaa rfl rfl rfl (qei t s.fr wt (w.at hs).fr) ?_;simp;refine⟨fun h=>?_,fun h=>?_⟩
 ·refine qco rfl rfl rfl ⟨_,_,qen p.start ns.1 ns.2 _,?_⟩;simp[Pp.at,hs,hn,hg,h,ivs,List.take_of_length_le]
 ·refine WL_ev rfl rfl rfl (qzp p.segs (by have:=w.len;omega) fun x hx=>qaof x t (w.all x hx) wt (by simp)) ?_;simp[idxV,hi,sgs,hlt,hg'];refine qaa rfl rfl rfl (qnx t g.to wt wg.to) ?_;simp;refine⟨fun h2=>?_,fun h2=>?_⟩
  ·refine qco rfl rfl rfl ⟨_,_,qen g.tube (nb g (List.mem_of_getElem? hg)).1.1 (nb g (List.mem_of_getElem? hg)).1.2 _,?_⟩;simp[Pp.at,hs,hn,hg,h,h2,ivs,List.take_of_length_le]
  ·have h3:¬(t.cmp g.to<0):=by omega
   simp[hlt,hg'];refine qco rfl rfl rfl ⟨_,_,qen g.en (nb g (List.mem_of_getElem? hg)).2.1 (nb g (List.mem_of_getElem? hg)).2.2 _,?_⟩;simp[Pp.at,hs,hn,hg,h,h3,ivs,List.take_of_length_le]
theorem qafk (p:Pp)(t:Dy)(w:p.W)(wt:t.W)(ns:SmL p.start)(nb:∀s ∈ p.segs,SmL s.tube/\SmL s.en):CQ prog q9x [p.v,t.v] (.tup [ivs (p.atR t),.int .i64 (p.atE t)]):=by
 refine qaf rfl fun H=>?_
 simp;refine qaa rfl rfl rfl (qw4 p w) ?_;cases hv:p.valid
 ·simp[Pp.atR,Pp.atE,hv,ivs]
 ·simp;refine qaa rfl rfl rfl (qcf t wt.len wt.li) ?_;cases ht:t.valid
  ·simp[Pp.atR,Pp.atE,hv,ht,ivs]
  ·simp;refine qaa rfl rfl rfl (qadx p t w wt) ?_;cases hd:p.during t
   ·simp[Pp.atR,Pp.atE,hv,ht,hd,ivs]
   ·simp;obtain⟨h0,i,hi⟩:=qzc hd;refine qaa rfl rfl rfl (qaod p t w wt i h0 hi ns nb) ?_;simp[Pp.atR,Pp.atE,hv,ht,hd]
def outO (H:Heap)(g:Nat):Nat->V
 |0=>.nil
 |i+1=>.ref (H.length+(g+4)) 8 0 (i+1)
theorem q98 (p:Pp)(w:p.W)(H:Heap)(Q:V->Heap->Prop)
 (ns:SmL p.start) (nb:∀s ∈ p.segs,SmL s.tube/\SmL s.en) (hnil:p.segs≠[])
 (hq:Q (.agg [.ref H.length 7 0 p.start.length,.ref (H.length+1) 8 0 p.segs.length]) (H++[some ⟨7,p.start.map Iv.v,true,true⟩,some ⟨8,p.segs.map Sg.v,true,true⟩])):CT prog qxe [p.v] H Q:=by
 refine CT_of (f:=qgg) rfl (qj4 ?_);have hse:=w.len;simp;refine qco rfl rfl rfl ⟨_,_,qen p.start ns.1 ns.2 _,?_⟩;simp[sgs];refine WK_up (fun i E H'=>∃g G,H'=H++(some ⟨2,[p.v],false,true⟩ :: some ⟨2,[.agg [.nil,.nil]],false,true⟩ :: some ⟨7,p.start.map Iv.v,true,true⟩ :: some ⟨2,[.agg [.ref (H.length+2) 7 0 p.start.length,outO H g i]],false,true⟩ :: G) /\
  E 1=.ptr H.length 0 0/\E 2=.ptr (H.length+1) 0 0/\E 3=.ptr (H.length+3) 0 0/\E 11=sgs p.segs/\E 12=.int .i64 p.segs.length/\E 13=.int .i64 i /\
  (0<i->G[g]?=some (some ⟨8,(p.segs.take i).map Sg.v,true,true⟩))) p.segs.length ?_ ?_
 ·simp[sgs,outO]
 ·rintro i E H' hi ⟨g,G,rfl,h1,h2,h3,h11,h12,h13,hg⟩;simp only[sgs]at h11;rcases Nat.lt_or_ge i p.segs.length with hlt|hge
  ·have⟨s,hs⟩:∃s,p.segs[i]?=some s:=⟨_,List.getElem?_eq_getElem hlt⟩
   have hs':p.segs[i]=s:=by rw[List.getElem?_eq_getElem hlt]at hs;injection hs
   have ws:=w.at hs;have f1:IntKind.i64.wrap ((i:Int)+1)=((i+1:Nat):Int):=by rw[wrap_i64]<;>omega
   have f8:(i+1)*128<=140737488355328:=by omega
   rcases i with _|k
   ·simp[qd3,h11,h12,h13,hlt,hs'];refine qco rfl rfl rfl ⟨_,_,qen s.tube (nb s (List.mem_of_getElem? hs)).1.1 (nb s (List.mem_of_getElem? hs)).1.2 _,?_⟩;simp;refine qco rfl rfl rfl ⟨_,_,qen s.en (nb s (List.mem_of_getElem? hs)).2.1 (nb s (List.mem_of_getElem? hs)).2.2 _,?_⟩;simp[h1,h2,h3,h11,h12,h13,outO];refine⟨_,_,⟨rfl,rfl⟩,rfl,by decide,?_⟩;rw[List.getElem?_append_right (by omega)];simp;have⟨l,hl⟩:∃l,p.segs=s :: l:=by
     cases hq:p.segs with
     |nil=>rw[hq]at hs;simp at hs
     |cons x l=>rw[hq]at hs;simp at hs;exact⟨l,by rw[hs]⟩
    simp[hl,tkI]
   ·have hg:=hg (by omega);have hgl:=(List.getElem?_eq_some_iff.1 hg).1;have hg':∀l:Heap,(G++l)[g]?=some (some ⟨8,(p.segs.take (k+1)).map Sg.v,true,true⟩):=fun l=>q0i hg
    have f2:IntKind.i64.wrap ((k:Int)+1+1)=(k:Int)+1+1:=by rw[wrap_i64]<;>omega
    have f3:(k:Int)+1<p.segs.length:=by omega
    have f5:(0:Int)<=(k:Int)+1:=by omega
    have f6:min (k+1) p.segs.length=k+1:=by omega
    have f9:k+1<=p.segs.length:=by omega
    simp[qd3,h11,h12,h13,hlt,hs',f3,f5];refine qco rfl rfl rfl ⟨_,_,qen s.tube (nb s (List.mem_of_getElem? hs)).1.1 (nb s (List.mem_of_getElem? hs)).1.2 _,?_⟩;simp;refine qco rfl rfl rfl ⟨_,_,qen s.en (nb s (List.mem_of_getElem? hs)).2.1 (nb s (List.mem_of_getElem? hs)).2.2 _,?_⟩;simp[h1,h2,h3,h11,h12,h13,outO,hg',f2,f6,f8];refine⟨_,_,⟨rfl,rfl⟩,rfl,?_⟩;rw[List.getElem?_append_right (by simp)];have key:List.take (k+1) (List.map Sg.v p.segs)++[s.v]=List.take (k+1+1) (List.map Sg.v p.segs):=by
     rw[List.take_add_one (i:=k+1)];simp[hlt,hs']
    simp[List.take_take,tkI];exact key
  ·have hin:i=p.segs.length:=by omega
   subst hin;rcases hn:p.segs.length with _|k
   ·exact absurd (List.eq_nil_of_length_eq_zero hn) hnil
   ·have hg:=hg (by omega);simp[qd3,h2,h3,h12,h13,hn,outO,fin,ownV,ownCs,qz8,hg];refine⟨_,_,⟨rfl,rfl⟩,?_⟩;rw[hn]at hq;have q1:List.take p.start.length (List.map Iv.v p.start)=List.map Iv.v p.start:=List.take_of_length_le (by simp);have q2:List.take (k+1) (List.map Sg.v p.segs)=List.map Sg.v p.segs:=List.take_of_length_le (by simp;omega);simp only[q1,q2];exact hq
theorem qalr (p:Pp)(t:Dy)(w:p.W)(wt:t.W)(ns:SmL p.start)(nb:∀s ∈ p.segs,SmL s.tube/\SmL s.en):CQ prog q5v [p.v,t.v] (.tup [(p.cutR t).v,.int .i64 (p.atE t)]):=by
 refine qaf rfl fun H=>?_
 simp;refine qaa rfl rfl rfl (qafk p t w wt ns nb) ?_;simp;refine⟨fun he=>?_,fun he=>?_⟩
 ·simp[Pp.cutR,he,ivs,sgs]
 have h0:0<p.segs.length:=by
  have:p.during t=true:=by
   unfold Pp.atE at he;split at he
   ·split at he
    ·assumption
    ·omega
   ·omega
  exact(qzc this).1
 have hne:p.segs≠[]:=by intro h;rw[h]at h0;simp at h0
 have hse:=w.len;refine qco rfl rfl rfl (q98 p w _ _ ns nb hne ?_);simp[he];refine WK_up (fun i E H'=>∃G,H'=H++(some ⟨2,[p.v],false,true⟩ :: some ⟨3,[t.v],false,true⟩ :: some ⟨2,[.agg [.nil,.nil]],false,true⟩ :: some ⟨7,p.start.map Iv.v,true,true⟩ :: some ⟨8,p.segs.map Sg.v,true,true⟩ ::
  some ⟨2,[.agg [.ref (H.length+3) 7 0 p.start.length,.ref (H.length+4) 8 0 p.segs.length]],false,true⟩ :: G) /\
  E 2=.ptr H.length 0 0/\E 3=.ptr (H.length+1) 0 0/\E 4=.ptr (H.length+2) 0 0/\E 8=.ptr (H.length+5) 0 0/\E 24=.ref (H.length+4) 8 0 p.segs.length/\E 25=.int .i64 p.segs.length/\E 26=.int .i64 i /\
  (∀j u,j<i->p.segs[j]?=some u->¬t.cmp u.to<0)) p.segs.length ?_ ?_
 ·simp
 ·rintro i E H' hi ⟨G,rfl,h2,h3,h4,h8,h24,h25,h26,hp⟩;rcases Nat.lt_or_ge i p.segs.length with hlt|hge
  ·have⟨s,hs⟩:∃s,p.segs[i]?=some s:=⟨_,List.getElem?_eq_getElem hlt⟩
   have hs':p.segs[i]=s:=by rw[List.getElem?_eq_getElem hlt]at hs;injection hs
   have ws:=w.at hs;have f1:IntKind.i64.wrap ((i:Int)+1)=((i+1:Nat):Int):=by rw[wrap_i64]<;>omega
   simp[qkh,h3,h24,h25,h26,hlt,hs'];refine qaa rfl rfl rfl (qnx t s.to wt ws.to) ?_;simp[h2,h3,h4,h8,h24,h25,h26];refine⟨fun hc=>⟨by simpa using f1,?_⟩,fun hc=>?_⟩
   ·intro j u hj hu;rcases Nat.lt_or_ge j i with hji|hji
    ·have:=hp j u hji hu;omega
    ·have:j=i:=by omega
     subst this;rw[hs]at hu;injection hu with hu;rw[<-hu];exact hc
   have hcut:=qaec (t:=t) hp hs hc;refine qaa rfl rfl rfl (qnx s.fr t ws.fr wt) ?_;have f2:IntKind.i64.wrap ((i:Int)+1)=(i:Int)+1:=by rw[wrap_i64]<;>omega
   have f3:(0:Int)<=(i:Int)+1:=by omega
   have f4:i+1<=p.segs.length:=by omega
   simp[h3,h4,h8,hi,V.lowB];refine⟨fun hd=>?_,fun hd=>?_⟩
   ·rw[if_pos hd]at hcut;refine qco rfl rfl rfl ⟨_,_,qen s.tube (nb s (List.mem_of_getElem? hs)).1.1 (nb s (List.mem_of_getElem? hs)).1.2 _,?_⟩;simp[h4,h8,hlt,hs',f2,f3,f4,apart];refine⟨by simp[Pp.cutR,he,tkI],?_⟩;rw[qzx (by simpa using hlt)];simp[Pp.cutR,he,hcut,sgs,tkI]
   ·rw[if_neg (by omega)]at hcut;simp[Pp.cutR,he,hcut,sgs,tkI]
  ·have hin:i=p.segs.length:=by omega
   subst hin;simp[qkh,h4,h8,h25,h26];have:=q8j (t:=t) (l:=p.segs) (fun u hu=>by
    obtain⟨j,hj,rfl⟩:=List.getElem_of_mem hu;exact hp j _ hj (List.getElem?_eq_getElem _))
   simp[Pp.cutR,he,this,sgs,List.take_of_length_le,ivs]
theorem ex_ns : SmL exP.start:=⟨by simp[exP,iv],by simp[exP,iv]⟩
theorem ex_nb : ∀s ∈ exP.segs,SmL s.tube/\SmL s.en:=by
 intro s hs;simp[exP]at hs;rcases hs with rfl|rfl<;>simp[iv,SmL]
theorem qaes : CQ prog qth [] (.bool true):=by
 refine qaf rfl fun H=>?_
 have n1:=n_cq 1 (by omega);have n2:=n_cq 2 (by omega);have o11:=of_cq 1 1 (by omega) (by omega);have o13:=of_cq 1 3 (by omega) (by omega);rw[of_1]at n1 o11 o13;rw[of_2]at n2;rw[of_3]at o13;have a1:exP.atR d1=iv d1 d1:=by rw[Pp.atR,if_pos ex_e1,ex_a1]
 have a2:exP.atR d2=iv d1 d3:=by rw[Pp.atR,if_pos ex_e2,ex_a2]
 have c2:exP.cutR d2=⟨iv d0 d0,[⟨d0,d1,iv d0 d2,iv d1 d1⟩,⟨d1,d2,iv d1 d3,iv d1 d3⟩]⟩:=by rw[Pp.cutR,if_pos ex_e2,ex_c2];rfl
 have t1:=qafk exP d1 ex_W d1_W ex_ns ex_nb;have t2:=qafk exP d2 ex_W d2_W ex_ns ex_nb;have t3:=qalr exP d2 ex_W d2_W ex_ns ex_nb;rw[a1,ex_e1]at t1;rw[a2,ex_e2]at t2;rw[c2,ex_e2]at t3;have w11:=iv_W d1_W d1_W;have w13:=iv_W d1_W d3_W;simp;refine zq q92 ?_;simp;refine zq n1 ?_;simp;refine zq t1 ?_;simp;refine zq n2 ?_;simp;refine zq t2 ?_;simp;refine zq n2 ?_;simp;refine zq t3 ?_;simp;refine zq o11 ?_;simp;refine qaa rfl rfl rfl (qsh (iv d1 d1) (iv d1 d1) w11 w11) ?_;simp;refine zq o13 ?_;simp;refine qaa rfl rfl rfl (qsh (iv d1 d3) (iv d1 d3) w13 w13) ?_;simp[sgs];refine zq o13 ?_;simp;refine qaa rfl rfl rfl (qsh (iv d1 d3) (iv d1 d3) w13 w13) ?_;simp;refine qaa rfl rfl rfl (qw4 exP ex_W) ?_;simp[ex_v]
end Go.Abs.W
namespace Go.Abs.W
set_option maxRecDepth 20000
def valI (t:Tp)(q:Int)(s:Sg):Iv:=at0 (allL q t.ops s.tube) (t.outs[0]?.getD 0).toNat
def hullL : List Iv->Iv
 | []=>nI 0 0
 |y :: l=>l.foldl Iv.hull y
theorem qac4 {l:List Iv}{y:Iv}(h:l≠[]):hullL (l++[y])=(hullL l).hull y:=by
 cases l with
 |nil=>exact absurd rfl h
 |cons x l=>simp[hullL]
theorem qy1 {α:Type}{f:α->Iv}{l:List α}{i:Nat}(hlt:i<l.length):hullL ((l.take (i+1)).map f)=if i=0 then f l[i]else(hullL ((l.take i).map f)).hull (f l[i]):=by
 have e1:l.take (i+1)=l.take i++[l[i]]:=by rw[List.take_add_one];simp[hlt]
 rw[e1,List.map_append];by_cases h0:i=0
 ·subst h0;simp[hullL]
 ·rw[if_neg h0];exact qac4 fun h=>by
   have:=congrArg List.length h;simp only[List.length_map,List.length_take,List.length_nil]at this;omega
def rngB (p:Pp)(t:Tp)(q:Int):Bool:=p.valid&&t.valid&&decide (t.ins=p.start.length)&&decide (t.outs.length=1)&&precB q
def rngE (p:Pp)(t:Tp)(q:Int):Int:=if rngB p t q=true then(if p.segs=[]then 7 else 0)else 1
def rngI (p:Pp)(t:Tp)(q:Int):Iv:=if rngB p t q=true then hullL (p.segs.map (valI t q))else nI 0 0
def zV : V:=.agg [.bool false,.nil,.int .i64 0,.bool false,.nil,.int .i64 0,.bool false]
theorem q14 {t:Tp}{q:Int}{s:Sg}(w:BxW s.tube):(valI t q s).W:=at0_W (qais w.all)
theorem q5i : ∀{l:List Iv},(∀y ∈ l,y.W)->(hullL l).W
 | [],_=>nI_W (by omega) (by omega)
 |x :: l,w=>by
  have key:∀(l:List Iv) (x:Iv),x.W->(∀y ∈ l,y.W)->(l.foldl Iv.hull x).W:=by
   intro l;induction l with
   |nil=>intro x wx _;exact wx
   |cons y l ih=>intro x wx w;exact ih _ (wx.hull (w y (by simp))) fun z hz=>w z (by simp[hz])
  exact key l x (w x (by simp)) fun y hy=>w y (by simp[hy])
theorem q7n : nI 0 0=⟨⟨false,[],0⟩,⟨false,[],0⟩,false⟩:=by decide +kernel
theorem qnp {p:Pp}{t:Tp}{q:Int}(h:rngB p t q=false):rngI p t q=⟨⟨false,[],0⟩,⟨false,[],0⟩,false⟩/\rngE p t q=1:=by
 unfold rngI rngE;rw[h,if_neg (by decide),if_neg (by decide),q7n];exact⟨rfl,rfl⟩
theorem qael {p:Pp}(h:p.valid=true):1<=p.start.length/\∀s ∈ p.segs,s.tube.length=p.start.length/\∀x ∈ s.tube,x.known=true:=by
 have h2:=Pp.validSegs h;have h1:boxOk p.start=true:=by simp[Pp.valid]at h;exact h.1.1.1
 simp only[boxOk,Bool.and_eq_true,decide_eq_true_eq]at h1;refine⟨h1.1.1,fun s hs=>?_⟩;obtain⟨i,hi,rfl⟩:=List.getElem_of_mem hs;have hg:=segsOk_iff.1 h2 i _ (List.getElem?_eq_getElem hi);simp only[Pp.segAt,Bool.and_eq_true,decide_eq_true_eq]at hg;obtain⟨⟨⟨⟨⟨⟨_,_⟩,_⟩,l⟩,_⟩,b⟩,_⟩:=hg;refine⟨l,fun x hx=>?_⟩;simp only[qrh,boxOk,Bool.and_eq_true,List.all_eq_true]at b;have:=b.1.1.2.2 x hx;simp only[Bool.not_eq_true']at this;simp[Iv.known,this.1,this.2]
set_option maxHeartbeats 2000000 in
theorem qahy (p:Pp)(t:Tp)(q:Int)(w:p.W)(lo:t.ops.length<=9223372036854775807)(lu:t.outs.length<=9223372036854775807) :
 CQ prog q3c [p.v,t.v,.int .i64 q] (.tup [(rngI p t q).v,.int .i64 (rngE p t q)]):=by
 refine qaf rfl fun H=>?_
 have cp:=qw4 p w;have ct:=qrk t lo lu;simp only[Tp.v]at ct;simp[Tp.v];refine zq cp ?_;cases hp:p.valid
 ·obtain⟨e1,e2⟩:=qnp (p:=p) (t:=t) (q:=q) (by simp[rngB,hp]);simp[e1,e2,lim]
 simp;refine zq ct ?_;cases ht:t.valid
 ·obtain⟨e1,e2⟩:=qnp (p:=p) (t:=t) (q:=q) (by simp[rngB,ht]);simp[e1,e2,lim]
 by_cases hi:t.ins=p.start.length
 case neg=>
  obtain⟨e1,e2⟩:=qnp (p:=p) (t:=t) (q:=q) (by simp[rngB,hi]);simp[ivs,hi,e1,e2,lim]
 by_cases hu:t.outs.length=1
 case neg=>
  obtain⟨e1,e2⟩:=qnp (p:=p) (t:=t) (q:=q) (by simp[rngB,hu]);have hu2:¬(t.outs.length:Int)=1:=by omega
  simp[ivs,hi,hu2,e1,e2,lim]
 by_cases h8:q<8
 ·obtain⟨e1,e2⟩:=qnp (p:=p) (t:=t) (q:=q) (by simp[rngB,precB];omega);simp[ivs,hi,hu,h8,e1,e2,lim]
 by_cases h512:512<q
 ·obtain⟨e1,e2⟩:=qnp (p:=p) (t:=t) (q:=q) (by simp[rngB,precB];omega);simp[ivs,hi,hu,h8,h512,e1,e2,lim]
 have hr:rngB p t q=true:=by simp[rngB,hp,ht,hi,hu,precB];omega
 have eI:rngI p t q=hullL (p.segs.map (valI t q)):=by unfold rngI;rw[if_pos hr]
 have eE:rngE p t q=if p.segs=[]then 7 else 0:=by unfold rngE;rw[if_pos hr]
 rw[eI,eE];by_cases hs:p.segs=[]
 ·simp[ivs,hi,hu,h8,h512,sgs,hs,hullL,q7n,lim]
 have hs1:¬(p.segs.length:Int)=0:=by
  intro h;exact hs (List.eq_nil_of_length_eq_zero (by omega))
 have hlen:=w.len;obtain⟨l1,l2⟩:=qael hp;simp[ivs,hi,hu,h8,h512,sgs,hs];refine WK_up (fun i E H'=>E 2=.int .i64 q/\E 4=.ptr (H.length+1) 0 0/\E 6=.ptr (H.length+2) 0 0/\E 8=.ptr (H.length+3) 0 0/\E 51=sgs p.segs/\E 52=.int .i64 p.segs.length/\E 53=.int .i64 i /\
  ∃c G,H'=H++(some ⟨2,[p.v],false,true⟩ :: some ⟨3,[.agg [.int .i64 p.start.length,.sl (t.ops.map Op6.v),.sl (t.outs.map iv64)]],false,true⟩ :: some ⟨7,[zV],false,true⟩ :: some ⟨7,[c],false,true⟩ :: G) /\
   (i=0->c=zV)/\(0<i->c=(hullL ((p.segs.take i).map (valI t q))).v)) p.segs.length ?_ ?_
 ·simp[sgs,zV,ivs]
 ·rintro i E H' hi' ⟨e2,e4,e6,e8,e51,e52,e53,c,G,rfl,hc0,hc1⟩;rcases Nat.lt_or_ge i p.segs.length with hlt|hge
  ·have g1:IntKind.i64.wrap ((i:Int)+1)=(i:Int)+1:=by rw[wrap_i64]<;>omega
   have hm:=List.getElem_mem hlt;have ws:=w.all _ hm;obtain⟨lt,_⟩:=l2 _ hm;have cr:=qai0 t p.segs[i].tube q ht (by omega) (by omega) ws.tube.all;simp only[Tp.v,hi]at cr;have⟨k0,hk0⟩:∃k,t.outs=[k]:=by
    match t.outs,hu with
    | [k],_=>exact⟨k,rfl⟩
   have ev:(t.outs.map fun k=>at0 (allL q t.ops p.segs[i].tube) k.toNat)=[valI t q p.segs[i]]:=by simp[hk0,valI]
   rw[ev]at cr;have wv:=q14 (t:=t) (q:=q) ws.tube;have et:=qy1 (f:=valI t q) hlt;have wL:(hullL ((p.segs.take i).map (valI t q))).W:=q5i fun y hy=>by
    obtain⟨s,hs,rfl⟩:=List.mem_map.1 hy;exact q14 (w.all s (List.mem_of_mem_take hs)).tube
   simp only[sgs]at e51;simp[qiq,e2,e4,e51,e52,e53,hlt];refine zq cr ?_;have et3:hullL (List.take (i+1) (List.map (valI t q) p.segs))=hullL ((p.segs.take (i+1)).map (valI t q)):=by rw[List.map_take]
   generalize hullL ((p.segs.take (i+1)).map (valI t q))=N at *
   by_cases h0:i=0
   ·subst h0;rw[if_pos rfl]at et;rw[hc0 rfl];generalize valI t q p.segs[0]=Y at *
    rw[et]at et3;simp at et3;simp[e2,e4,e6,e8,e51,e52,e53,zV,ivs,et3,sgs];decide
   ·rw[if_neg h0]at et;rw[hc1 (by omega)];generalize hullL ((p.segs.take i).map (valI t q))=L at *
    have ch:=q72 L (valI t q p.segs[i]) wL wv;generalize valI t q p.segs[i]=Y at *
    have h1:¬(i:Int)=0:=by omega
    simp[e8,h0,ivs];refine zq ch ?_;rw[et]at et3;simp[e2,e4,e6,e8,e51,e52,e53,et3,g1,sgs]
  ·obtain rfl:i=p.segs.length:=by omega
   have h0:0<p.segs.length:=by omega
   have hc:=hc1 h0;rw[List.take_length]at hc;rw[hc];generalize hullL (p.segs.map (valI t q))=N at *
   simp[qiq,e6,e8,e52,e53,zV,hs]
end Go.Abs.W
