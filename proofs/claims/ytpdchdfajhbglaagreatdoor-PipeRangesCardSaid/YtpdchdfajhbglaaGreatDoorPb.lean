/- Parts of the proof: FpTp2, FpTp3. -/
import Derived.Test.YtpdchdfajhbglaaGreatDoorPt
import Derived.Test.YtpdchdfajhbglaaGreatDoorFh
import Derived.Test.YtpdchdfajhbglaaGreatDoorXc
import Derived.Test.YtpdchdfajhbglaaGreatDoorXd
import Derived.Test.YtpdchdfajhbglaaGreatDoorCb
import Derived.Test.YtpdchdfajhbglaaGreatDoorHp
import Derived.Test.YtpdchdfajhbglaaGreatDoorFi
import Derived.Test.YtpdchdfajhbglaaGreatDoorFe
import Derived.Test.YtpdchdfajhbglaaGreatDoorFe
import Derived.Test.YtpdchdfajhbglaaGreatDoorSc
import Derived.Test.YtpdchdfajhbglaaGreatDoorSc
import Derived.Test.YtpdchdfajhbglaaGreatDoorXf
import Derived.Test.YtpdchdfajhbglaaGreatDoorCe
namespace Go.Abs.W
set_option maxRecDepth 20000
def encI (n d p:Int):Iv:=if rvB n d=true then Iv.made (rDiv (nD n) (nD d) p false) (rDiv (nD n) (nD d) p true)else Iv.whole
theorem qaao (n d p:Int):CQ prog qvc [.agg [.int .i64 n,.int .i64 d],.int .i64 p] (encI n d p).v:=by
 refine qaf rfl fun H=>?_
 simp;refine qaa rfl rfl rfl (qzo n d) ?_;cases hr:rvB n d
 ·simp[encI,hr,Iv.whole,lim]
 ·have hr2:=hr;simp only[rvB,Bool.and_eq_true,decide_eq_true_eq]at hr2;obtain⟨⟨⟨⟨h1,h2⟩,h3⟩,h4⟩,_⟩:=hr2;have c1:=qu1 n (by omega) (by omega);have c2:=qu1 d (by omega) (by omega);have w1:=(nD_ok (k:=n) (by omega)).w;have w2:=(nD_ok (k:=d) (by omega)).w;have q1:=qzr (nD n) (nD d) p w1 w2;have q2:=q84 (nD n) (nD d) p w1 w2;have e:encI n d p=Iv.made (rDiv (nD n) (nD d) p false) (rDiv (nD n) (nD d) p true):=by unfold encI;rw[if_pos hr]
  rw[e];generalize rDiv (nD n) (nD d) p false=u at *
  generalize rDiv (nD n) (nD d) p true=w at *
  generalize nD n=N at *
  generalize nD d=D at *
  obtain⟨l,i⟩:=u;obtain⟨h,j⟩:=w;simp;refine zq c1 ?_;simp;refine zq c2 ?_;simp;refine zq q1 ?_;simp;refine zq c1 ?_;simp;refine zq c2 ?_;simp;refine zq q2 ?_;by_cases hi:i=0
  ·by_cases hj:j=0
   ·simp[hi,hj,Iv.made]
   ·simp[hi,hj,Iv.made,Iv.whole,lim]
  ·simp[hi,Iv.made,Iv.whole,lim]
def appI (k n:Int)(x y:Iv)(p:Int):Iv:=
 if k=3 then x.add y p else if k=4 then x.add y.neg p else if k=5 then x.mul y p else if k=6 then x.div y p else if k=7 then x.neg else if k=8 then x.pow n p
 else if k=9 then x.exp p else if k=10 then x.log p else if k=11 then bothI x false p else if k=12 then bothI x true p else if k=13 then x.sqrt p else Iv.whole
set_option maxHeartbeats 1000000 in
theorem q85 (k n:Int)(x y:Iv)(p:Int)(wx:x.W)(wy:y.W):CQ prog qtl [.int .i64 k,.int .i64 n,x.v,y.v,.int .i64 p] (appI k n x y p).v:=by
 refine qaf rfl fun H=>?_
 by_cases h3:k=3
 ·subst h3;simp[appI];refine qaa rfl rfl rfl (q6q x y p wx wy) ?_;simp
 by_cases h4:k=4
 ·subst h4;simp[appI];refine qaa rfl rfl rfl (qalp x y p wx wy) ?_;simp
 by_cases h5:k=5
 ·subst h5;simp[appI];refine qaa rfl rfl rfl (qafe x y p wx wy) ?_;simp
 by_cases h6:k=6
 ·subst h6;simp[appI];refine qaa rfl rfl rfl (qaff x y p wx wy) ?_;simp
 by_cases h7:k=7
 ·subst h7;simp[appI];refine qaa rfl rfl rfl (qafd x wx) ?_;simp
 by_cases h8:k=8
 ·subst h8;simp[appI];refine qaa rfl rfl rfl (qafc x n p wx) ?_;simp
 by_cases h9:k=9
 ·subst h9;simp[appI];refine qaa rfl rfl rfl (qao4 x p wx) ?_;simp
 by_cases h10:k=10
 ·subst h10;simp[appI];refine qaa rfl rfl rfl (qao1 x p wx) ?_;simp
 by_cases h11:k=11
 ·subst h11;simp[appI];refine qaa rfl rfl rfl (qaow x p wx) ?_;simp
 by_cases h12:k=12
 ·subst h12;simp[appI];refine qaa rfl rfl rfl (qao8 x p wx) ?_;simp
 by_cases h13:k=13
 ·subst h13;simp[appI];refine qaa rfl rfl rfl (qah1 x p wx) ?_;simp
 simp[appI,h3,h4,h5,h6,h7,h8,h9,h10,h11,h12,h13];refine zq qak ?_;simp
end Go.Abs.W
namespace Go.Abs.W
set_option maxHeartbeats 4000000
set_option maxRecDepth 20000
def stpI (o:Op6)(l:List Iv)(p:Int):Iv:=
 if opK o.kind=0 then encI o.cn o.cd p else if opK o.kind=1 then appI o.kind o.n (at0 l o.a.toNat) Iv.whole p else appI o.kind o.n (at0 l o.a.toNat) (at0 l o.b.toNat) p
def allL (p:Int):List Op6->List Iv->List Iv
 | [],l=>l
 |o :: os,l=>allL p os (l++[stpI o l p])
theorem qanx {n d p:Int}:(encI n d p).W:=by
 unfold encI;split
 ·exact qq1 rDiv_ok.w rDiv_ok.w
 ·exact Iv.whole_W
theorem qaoj {k n p:Int}{x y:Iv}(wx:x.W):(appI k n x y p).W:=by
 unfold appI;repeat' split
 all_goals first|exact add_W|exact mul_W|exact div_W|exact neg_W wx|exact pow_W|exact exp_W wx|exact log_W|exact qaoa wx|exact Iv.sqrt_W'|exact Iv.whole_W
theorem qabc {o:Op6}{l:List Iv}{p:Int}(w:∀y ∈ l,y.W):(stpI o l p).W:=by
 unfold stpI;split
 ·exact qanx
 ·split<;>exact qaoj (at0_W w)
theorem qais {p:Int}:∀{os:List Op6} {l:List Iv},(∀y ∈ l,y.W)->∀y ∈ allL p os l,y.W
 | [],_,w=>w
 |o :: os,l,w=>qais (os:=os) fun y hy=>by
  rcases List.mem_append.1 hy with h|h
  ·exact w y h
  ·rw[List.mem_singleton.1 h];exact qabc w
theorem q8u {p:Int}:∀{os:List Op6} {l:List Iv},(allL p os l).length=l.length+os.length
 | [],_=>rfl
 |o :: os,l=>by rw[allL,q8u];simp;omega
theorem qab3 {o:Op6}{n:Int}(h:prpB o n=true):0<=opK o.kind/\(0<opK o.kind->0<=o.a/\o.a<n)/\(1<opK o.kind->0<=o.b/\o.b<n):=by
 simp only[prpB,Bool.and_eq_true,decide_eq_true_eq]at h;obtain⟨⟨⟨⟨h1,_⟩,_⟩,h2⟩,h3⟩:=h;refine⟨h1,fun hk=>?_,fun hk=>?_⟩
 ·rw[if_pos hk]at h2;simpa using h2
 ·rw[if_pos hk]at h3;simpa using h3
theorem qaob {H0 H:Heap}{b n:Nat}{l:List Iv}(h:Out H0 H (.ref b 7 0 n) 7 (l.map Iv.v))(hn:l.length=n):∃blk,H[b]?=some (some ⟨7,blk,true,true⟩)/\∀t,t<n->blk[t]?=some (at0 l t).v:=by
 rcases h.val with ⟨e,e2⟩|⟨b',blk,h1,e,h3,h4,h5⟩
 ·cases e2
 injection e with e1 _ _ _
 subst e1;refine⟨blk,h3,fun t ht=>?_⟩;rw[List.length_map]at h4;have e:(l.map Iv.v)[t]?=some (at0 l t).v:=by rw[List.getElem?_map,List.getElem?_eq_getElem (show t<l.length by omega),qair (show t<l.length by omega)];rfl
 have:(blk.take l.length)[t]?=(l.map Iv.v)[t]?:=by rw[h4]
 rw[List.getElem?_take_of_lt (by omega),e]at this;exact this
theorem Out.aRef {H0 H:Heap}{v:V}{z:Nat}{l:List V}(h:Out H0 H v z l)(hl:l≠[]):∃b,v=.ref b z 0 l.length:=by
 rcases h.val with ⟨e,_⟩|⟨b,_,_,e,_⟩
 ·exact absurd e hl
 ·exact⟨b,e⟩
theorem app_W {l:List Iv}{x:Iv}(w:∀y ∈ l,y.W)(wx:x.W):∀y ∈ l++[x],y.W:=fun y hy=>by
 rcases List.mem_append.1 hy with h|h
 ·exact w y h
 ·rw[List.mem_singleton.1 h];exact wx
theorem qapc (t:Tp)(x:List Iv)(p:Int)(hv:t.valid=true)(hl:(x.length:Int)=t.ins)(h1:1<=x.length)(wx:∀y ∈ x,y.W):CQ prog q9u [t.v,ivs x,.int .i64 p] (ivs (allL p t.ops x)):=by
 have hv2:=hv;simp only[Tp.valid,Bool.and_eq_true,decide_eq_true_eq]at hv2;obtain⟨⟨⟨⟨⟨v1,v2⟩,v3⟩,v4⟩,v5⟩,_⟩:=hv2;have cv:=qrk t (by omega) (by omega);rw[hv]at cv;simp only[Tp.v]at cv;have hx:x≠[]:=by intro e;subst e;simp at h1
 have cc:=qen x hx (by omega);refine qaf rfl fun H=>?_
 simp[Tp.v];refine zq cv ?_;simp[ivs,hl];simp only[ivs]at cc;refine qco rfl rfl rfl ⟨_,_,cc _,?_⟩;simp;refine WK_up (fun i E H'=>E 2=.int .i64 p/\E 24=.sl (t.ops.map Op6.v)/\E 25=.int .i64 t.ops.length/\E 26=.int .i64 i/\∃cur:List Iv,cur.length=x.length+i/\(∀y ∈ cur,y.W)/\allL p (t.ops.drop i) cur=allL p t.ops x/\∃rb,E 7=.ref rb 7 0 cur.length /\
  Out (H++[some ⟨3,[.agg [.int .i64 t.ins,.sl (t.ops.map Op6.v),.sl (t.outs.map iv64)]],false,true⟩]) H' (.ref rb 7 0 cur.length) 7 (cur.map Iv.v)) t.ops.length ?_ ?_
 ·simp;refine⟨x,rfl,wx,rfl,_,⟨rfl,rfl⟩,by simp,.inr ⟨H.length+1,x.map Iv.v,by simp,by simp,by simp,?_,by simp⟩⟩;exact List.take_of_length_le (by simp)
 ·rintro i E H' hi ⟨e2,e24,e25,e26,cur,lc,wc,hc,rb,e7,ho⟩;rcases Nat.lt_or_ge i t.ops.length with hlt|hge
  ·have g1:IntKind.i64.wrap ((i:Int)+1)=(i:Int)+1:=by rw[wrap_i64]<;>omega
   obtain⟨p1,p2,p3⟩:=qab3 (qab4 v5 hlt);have ed:=List.drop_eq_getElem_cons hlt;rw[ed,allL]at hc;obtain⟨blk,b1,b2⟩:=qaob ho rfl;have b3:=getP (List.prefix_refl H') b1;have co:=quy t.ops[i].kind;have wS:(stpI t.ops[i] cur p).W:=qabc wc;simp[qmf,e24,e25,e26,hlt,Op6.v];refine zq co ?_;rcases q2r t.ops[i].kind with hk|hk|hk|hk
   ·omega
   ·have eS:stpI t.ops[i] cur p=encI t.ops[i].cn t.ops[i].cd p:=by unfold stpI;rw[if_pos hk]
    have ce:=qaao t.ops[i].cn t.ops[i].cd p;rw[<-eS]at ce;generalize stpI t.ops[i] cur p=I at *
    simp[hk,e2];refine zq ce ?_;obtain⟨v',H'',e',ho'⟩:=(ho.grow [some ⟨6,[.agg [.int .i64 t.ops[i].kind,.int .i64 t.ops[i].a,.int .i64 t.ops[i].b,.int .i64 t.ops[i].n,.int .i64 t.ops[i].cn,.int .i64 t.ops[i].cd]],false,true⟩,some ⟨7,[I.v],false,true⟩]).oneIv I (by omega);simp only[Iv.v]at e';simp at e';obtain⟨rc,hrc⟩:=ho'.aRef (by simp);subst hrc;simp only[List.length_map,List.length_append,List.length_cons,List.length_nil,Nat.zero_add]at e' ho';simp[e7,e',e2,e24,e25,e26,g1];exact⟨cur++[I],by simp;omega,app_W wc wS,hc,rc,by simp,by simpa using ho'⟩
   ·have eS:stpI t.ops[i] cur p=appI t.ops[i].kind t.ops[i].n (at0 cur t.ops[i].a.toNat) Iv.whole p:=by unfold stpI;rw[if_neg (by omega),if_pos hk]
    obtain⟨p4,p5⟩:=p2 (by omega);have⟨ia,ha⟩:∃n:Nat,t.ops[i].a=n:=⟨t.ops[i].a.toNat,by omega⟩
    have hia:ia<cur.length:=by omega
    have ga:=b2 ia hia;have ce:=q85 t.ops[i].kind t.ops[i].n (at0 cur ia) Iv.whole p (at0_W wc) Iv.whole_W;rw[ha,Int.toNat_natCast]at eS;rw[<-eS]at ce;generalize stpI t.ops[i] cur p=I at *
    generalize at0 cur ia=X at *
    simp only[Iv.v]at ga;simp[hk,e2,e7,ha,hia,b3.2,ga];refine zq ce ?_;obtain⟨v',H'',e',ho'⟩:=(ho.grow [some ⟨6,[.agg [.int .i64 t.ops[i].kind,.int .i64 (ia:Int),.int .i64 t.ops[i].b,.int .i64 t.ops[i].n,.int .i64 t.ops[i].cn,.int .i64 t.ops[i].cd]],false,true⟩,some ⟨7,[I.v],false,true⟩]).oneIv I (by omega);simp only[Iv.v]at e';simp at e';obtain⟨rc,hrc⟩:=ho'.aRef (by simp);subst hrc;simp only[List.length_map,List.length_append,List.length_cons,List.length_nil,Nat.zero_add]at e' ho';simp[e7,e',e2,e24,e25,e26,g1];exact⟨cur++[I],by simp;omega,app_W wc wS,hc,rc,by simp,by simpa using ho'⟩
   ·have eS:stpI t.ops[i] cur p=appI t.ops[i].kind t.ops[i].n (at0 cur t.ops[i].a.toNat) (at0 cur t.ops[i].b.toNat) p:=by unfold stpI;rw[if_neg (by omega),if_neg (by omega)]
    obtain⟨p4,p5⟩:=p2 (by omega);obtain⟨p6,p7⟩:=p3 (by omega);have⟨ia,ha⟩:∃n:Nat,t.ops[i].a=n:=⟨t.ops[i].a.toNat,by omega⟩
    have⟨ib,hb⟩:∃n:Nat,t.ops[i].b=n:=⟨t.ops[i].b.toNat,by omega⟩
    have hia:ia<cur.length:=by omega
    have hib:ib<cur.length:=by omega
    have ga:=b2 ia hia;have gb:=b2 ib hib;have ce:=q85 t.ops[i].kind t.ops[i].n (at0 cur ia) (at0 cur ib) p (at0_W wc) (at0_W wc);rw[ha,hb,Int.toNat_natCast,Int.toNat_natCast]at eS;rw[<-eS]at ce;generalize stpI t.ops[i] cur p=I at *
    generalize at0 cur ia=X at *
    generalize at0 cur ib=Y at *
    simp only[Iv.v]at ga gb;simp[hk,e2,e7,ha,hb,hia,hib,b3.2,ga,gb];refine zq ce ?_;obtain⟨v',H'',e',ho'⟩:=(ho.grow [some ⟨6,[.agg [.int .i64 t.ops[i].kind,.int .i64 (ia:Int),.int .i64 (ib:Int),.int .i64 t.ops[i].n,.int .i64 t.ops[i].cn,.int .i64 t.ops[i].cd]],false,true⟩,some ⟨7,[I.v],false,true⟩]).oneIv I (by omega);simp only[Iv.v]at e';simp at e';obtain⟨rc,hrc⟩:=ho'.aRef (by simp);subst hrc;simp only[List.length_map,List.length_append,List.length_cons,List.length_nil,Nat.zero_add]at e' ho';simp[e7,e',e2,e24,e25,e26,g1];exact⟨cur++[I],by simp;omega,app_W wc wS,hc,rc,by simp,by simpa using ho'⟩
  ·obtain rfl:i=t.ops.length:=by omega
   rw[List.drop_length,allL]at hc;simp[qmf,e25,e26,e7];have hf:=ho.fin (H1:=H) (List.prefix_append _ _);rw[hc]at hf ⊢;simp[fin]at hf;exact hf
theorem qai0 (t:Tp)(x:List Iv)(p:Int)(hv:t.valid=true)(hl:(x.length:Int)=t.ins)(h1:1<=x.length)(wx:∀y ∈ x,y.W) :
 CQ prog q9t [t.v,ivs x,.int .i64 p] (ivs (t.outs.map fun k=>at0 (allL p t.ops x) k.toNat)):=by
 have hv2:=hv;simp only[Tp.valid,Bool.and_eq_true,decide_eq_true_eq,List.all_eq_true]at hv2;obtain⟨⟨⟨⟨⟨v1,v2⟩,v3⟩,v4⟩,v5⟩,v6⟩:=hv2;have cv:=qrk t (by omega) (by omega);have ca:=qapc t x p hv hl h1 wx;rw[hv]at cv;simp only[Tp.v]at cv ca;have lA:(allL p t.ops x).length=x.length+t.ops.length:=q8u;generalize allL p t.ops x=A at *
 have e:IntKind.i64.wrap (t.ins+t.ops.length)=t.ins+t.ops.length:=by rw[wrap_i64]<;>omega
 have lA2:((A.length:Nat):Int)=t.ins+t.ops.length:=by omega
 refine qaf rfl fun H=>?_
 simp[Tp.v];refine zq ca ?_;simp[ivs,lA2,e,hl];refine zq cv ?_;simp;refine WK_up (fun i E H'=>E 7=.sl (A.map Iv.v)/\E 37=.sl (t.outs.map iv64)/\E 38=.int .i64 t.outs.length/\E 39=.int .i64 i /\
  Out (H++[some ⟨3,[.agg [.int .i64 t.ins,.sl (t.ops.map Op6.v),.sl (t.outs.map iv64)]],false,true⟩]) H' (E 8) 7 (((t.outs.take i).map fun k=>at0 A k.toNat).map Iv.v)) t.outs.length ?_ ?_
 ·simp;exact .nil
 ·rintro i E H' hi ⟨e7,e37,e38,e39,ho⟩;rcases Nat.lt_or_ge i t.outs.length with hlt|hge
  ·have g1:IntKind.i64.wrap ((i:Int)+1)=(i:Int)+1:=by rw[wrap_i64]<;>omega
   obtain⟨k1,k2⟩:=v6 t.outs[i] (List.getElem_mem hlt);have⟨k,hk⟩:∃k:Nat,t.outs[i]=k:=⟨t.outs[i].toNat,by omega⟩
   have kl:k<A.length:=by omega
   have et:t.outs.take (i+1)=t.outs.take i++[t.outs[i]]:=by rw[List.take_add_one];simp[hlt]
   obtain⟨v',H'',e',ho'⟩:=ho.oneIv A[k] (by simp;omega);simp only[Iv.v]at e';simp[qme,e37,e38,e39,hlt,iv64,hk,e7,kl,e',g1];have el:(t.outs.take i).map (fun k=>at0 A k.toNat)++[A[k]]=(t.outs.take (i+1)).map fun k=>at0 A k.toNat:=by rw[et];simp[hk,qair kl]
   rw[el]at ho';simpa using ho'
  ·obtain rfl:i=t.outs.length:=by omega
   simp[qme,e38,e39];have:=ho.fin (H1:=H) (List.prefix_append _ _);rw[List.take_length]at this;rw[this];simp
end Go.Abs.W
