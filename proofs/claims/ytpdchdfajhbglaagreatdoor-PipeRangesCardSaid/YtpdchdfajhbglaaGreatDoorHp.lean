/- Parts of the proof: FpIvP, FpIvQ. -/
import Derived.Test.YtpdchdfajhbglaaGreatDoorHm
namespace Go.Abs.W
def powR (d:Dy)(p:Int)(up:Bool):Nat->Dy × Int
 |0=>qbz d p up
 |k+1=>if(powR d p up k).2=0 then rMul (powR d p up k).1 d p up else powR d p up k
theorem ql1 {d:Dy}{p:Int}{up:Bool}:∀k,(powR d p up k).1.Ok
 |0=>rRound_ok
 |k+1=>by
  unfold powR;split
  ·exact rMul_ok
  ·exact ql1 k
theorem qyp {d:Dy}{p:Int}{up:Bool}{k:Nat}(h:(powR d p up k).2≠0):∀m,powR d p up (k+m)=powR d p up k
 |0=>rfl
 |m+1=>by
  have:powR d p up (k+(m+1))=if(powR d p up (k+m)).2=0 then rMul (powR d p up (k+m)).1 d p up else powR d p up (k+m):=rfl;rw[this,qyp h m,if_neg h]
def powE (d:Dy)(n p:Int)(up:Bool):Dy × Int:=powR d p up (n.toNat-1)
theorem qab7 {d:Dy}{p:Int}{up:Bool}{j:Nat}(hj:1<=j)(h:(powR d p up (j-1)).2=0):powR d p up (j+1-1)=rMul (powR d p up (j-1)).1 d p up:=by
 obtain⟨k,rfl⟩:∃k,j=k+1:=⟨j-1,by omega⟩
 have h':(powR d p up k).2=0:=h;show(if(powR d p up k).2=0 then rMul (powR d p up k).1 d p up else powR d p up k)=_;rw[if_pos h'];rfl
theorem qagn {d:Dy}{n p:Int}{up:Bool}{j:Nat}(h1:1<=j)(h2:(j:Int)<=n\/j=1)(h:n<=j\/(powR d p up (j-1)).2≠0):powE d n p up=powR d p up (j-1):=by
 unfold powE;by_cases hn:n<=j
 ·have:n.toNat-1=j-1:=by omega
  rw[this]
 ·have he:=h.resolve_left hn;have:n.toNat-1=(j-1)+(n.toNat-j):=by omega
  rw[this,qyp he]
theorem q7g (d:Dy)(n p:Int)(up:Bool)(gf gn:Nat)(hn:n<=1000)(pf:∀H args,prep prog gf H args=frzVs H args)(pn:∀H args,prep prog gn H args=frzVs H args)
 (cf:CQ prog gf [d.v,.int .i64 p] (.tup [(qbz d p up).1.v,.int .i64 (qbz d p up).2]))
 (cn:∀r:Dy,r.W->CQ prog gn [r.v,d.v,.int .i64 p] (.tup [(rMul r d p up).1.v,.int .i64 (rMul r d p up).2])) :
 CQ prog qs5 [d.v,.int .i64 n,.int .i64 p,.fn gf [],.fn gn []] (.tup [(powE d n p up).1.v,.int .i64 (powE d n p up).2]):=by
 refine qaf rfl fun H=>?_
 simp;refine qaa (g:=gf) (caps:=[]) (args:=[d.v,.int .i64 p]) (vs:=[d.v,.int .i64 p]) rfl rfl (by rw[pf];rfl) cf ?_;simp;refine qc5 (fun k E H'=>∃j:Nat,1<=j/\((j:Int)<=n\/j=1)/\k=n.toNat-j/\E 1=.int .i64 n/\E 2=.int .i64 p/\E 4=.fn gn []/\E 5=.ptr H.length 0 0/\E 10=.ptr (H.length+1) 0 0/\E 12=.ptr (H.length+2) 0 0/\E 13=.int .i64 (powR d p up (j-1)).2/\E 14=.int .i64 j /\
  H'=H++[some ⟨3,[d.v],false,true⟩,some ⟨3,[.agg [.bool false,.nil,.int .i64 0]],false,true⟩,some ⟨3,[(powR d p up (j-1)).1.v],false,true⟩]) (n.toNat-1) ?_ ?_
 ·refine⟨1,by omega,.inr rfl,rfl,?_⟩;simp[powR]
 ·rintro k E H' ⟨j,j1,j2,hm,h1,h2,h3,hb,hr,hc,he,hk,rfl⟩;refine qas ?_;have ok:=ql1 (d:=d) (p:=p) (up:=up) (j-1);have st:=qab7 (d:=d) (p:=p) (up:=up) j1;have fin:=qagn (d:=d) (n:=n) (p:=p) (up:=up) j1 j2;generalize powR d p up (j-1)=r at *
  by_cases hlt:(j:Int)<n
  ·by_cases h0:r.2=0
   ·have e1:IntKind.i64.wrap ((j:Int)+1)=((j+1:Nat):Int):=by rw[wrap_i64]<;>omega
    have sr:=st h0;have nxt:∀(a b:Nat),a=n.toNat-(j+1)->b=n.toNat-j->a<b:=by omega
    simp[qc0,h1,h2,h3,hb,hc,he,hk,hlt,h0];refine qaa (g:=gn) (caps:=[]) (args:=[r.1.v,d.v,.int .i64 p]) (vs:=[r.1.v,d.v,.int .i64 p]) rfl rfl (by rw[pn];rfl) (cn r.1 ok.w) ?_;simp[h1,h2,h3,hb,hr,hc,hk,e1];refine⟨n.toNat-(j+1),by omega,j+1,by omega,by omega,rfl,?_⟩;rw[sr];simp
   ·have f:=fin (.inr h0);rw[f];simp[qc0,h1,hr,hc,he,hk,hlt,h0,lim]
  ·have f:=fin (.inl (by omega));rw[f];simp[qc0,h1,hr,hc,he,hk,hlt,lim]
def endE (d:Dy)(n p:Int)(up:Bool):Dy × Int:=if d.sgn<0 then((powE d.neg' n p (!up)).1.neg',(powE d.neg' n p (!up)).2)else powE d n p up
theorem q5b {d:Dy}{n p:Int}{up:Bool}:(powE d n p up).1.Ok:=ql1 _
theorem endE_ok {d:Dy}{n p:Int}{up:Bool}:(endE d n p up).1.Ok:=by
 unfold endE;split
 ·exact qh9 q5b
 ·exact q5b
theorem qagd {d:Dy}(h:d.sgn<0):¬d.neg'.sgn<0:=by
 obtain⟨a,m,e⟩:=d;unfold Dy.sgn Dy.neg' at *
 by_cases hm:m=[]
 ·subst hm;simp at h
 ·cases a<;>simp_all
theorem qadv (d:Dy)(n p:Int)(up:Bool)(hn:n<=1000)(ok:d.Ok)(hs:¬d.sgn<0):CQ prog qpt [d.v,.int .i64 n,.int .i64 p,.bool up] (.tup [(powE d n p up).1.v,.int .i64 (powE d n p up).2]):=by
 refine qaf rfl fun H=>?_
 have w:=ok.w;have sc:=qjm d w;rw[if_pos ok.valid]at sc;simp;refine zq sc ?_;simp[hs];cases up
 ·simp;refine qaa rfl rfl rfl (q7g d n p false qsp qie hn (fun _ _=>rfl) (fun _ _=>rfl) (q6t d p w) (fun r wr=>qsi r d p wr w)) ?_;simp[lim]
 ·simp;refine qaa rfl rfl rfl (q7g d n p true qy5 ql8 hn (fun _ _=>rfl) (fun _ _=>rfl) (Up_cq d p w) (fun r wr=>q1u r d p wr w)) ?_;simp[lim]
theorem q8f (d:Dy)(n p:Int)(up:Bool)(hn:n<=1000)(ok:d.Ok):CQ prog qpt [d.v,.int .i64 n,.int .i64 p,.bool up] (.tup [(endE d n p up).1.v,.int .i64 (endE d n p up).2]):=by
 by_cases hs:d.sgn<0
 ·refine qaf rfl fun H=>?_
  have w:=ok.w;have sc:=qjm d w;rw[if_pos ok.valid]at sc;have nok:=qh9 ok;have nc:=qqp d w;rw[qo1 ok]at nc;have pok:=q5b (d:=d.neg') (n:=n) (p:=p) (up:=!up);have rc:=qqp _ pok.w;rw[qo1 pok]at rc;simp;refine zq sc ?_;simp[hs];refine zq nc ?_;simp;refine qaa rfl rfl rfl (qadv d.neg' n p (!up) hn nok (qagd hs)) ?_;simp;refine zq rc ?_;simp[endE,hs,lim]
 ·have:=qadv d n p up hn ok hs;unfold endE;rw[if_neg hs];exact this
def Iv.pow (x:Iv)(n p:Int):Iv:=
 if(x.known&&precB p&&decide (0<=n)&&decide (n<=16))=true then
  (if n=0 then Iv.pt (nD 1)else if Int.tmod n 2=0 then Iv.made (endE x.abs.lo n p false) (endE x.abs.hi n p true)else Iv.made (endE x.lo n p false) (endE x.hi n p true))
 else Iv.whole
theorem pow_W {x:Iv}{n p:Int}:(x.pow n p).W:=by
 unfold Iv.pow;split
 ·split
  ·exact pt_W (nD_ok (by omega)).w
  ·split
   ·exact qq1 endE_ok.w endE_ok.w
   ·exact qq1 endE_ok.w endE_ok.w
 ·exact Iv.whole_W
theorem qaez {x:Iv}(w:x.W)(hk:x.known=true):x.abs.lo.Ok/\x.abs.hi.Ok:=by
 unfold Iv.abs;rw[if_pos hk];exact⟨qacj w hk,qpq w hk⟩
set_option maxHeartbeats 1000000 in
theorem qafc (x:Iv)(n p:Int)(wx:x.W):CQ prog qtc [x.v,.int .i64 n,.int .i64 p] (x.pow n p).v:=by
 refine qaf rfl fun H=>?_
 simp;refine qam rfl rfl (H1:=H++[some ⟨7,[x.v],false,true⟩,some ⟨7,[.agg [.bool false,.nil,.int .i64 0,.bool false,.nil,.int .i64 0,.bool false]],false,true⟩,some ⟨7,[x.v],true,false⟩]) (vs:=[ivs [x]]) (by simp[prep,frzVs,frzV];rfl) (qdg [x] (by simp) (by simpa using wx)) ?_;cases hk:x.known
 ·simp[hk];refine zq qak ?_;simp[Iv.pow,hk,lim]
 simp[hk];refine qaa rfl rfl rfl (qcw p) ?_;cases hp:precB p
 ·simp;refine zq qak ?_;simp[Iv.pow,hp,lim]
 by_cases h0:n<0
 ·have h0':¬0<=n:=by omega
  simp[h0];refine zq qak ?_;simp[Iv.pow,h0',lim]
 by_cases h16:16<n
 ·have h16':¬n<=16:=by omega
  simp[h0,h16];refine zq qak ?_;simp[Iv.pow,h16',lim]
 have h0':0<=n:=by omega
 have h16':n<=16:=by omega
 obtain⟨o1,o2⟩:=qai wx hk;obtain⟨o3,o4⟩:=qaez wx hk;by_cases hz:n=0
 ·subst hz;simp;refine qaa rfl rfl rfl (qng 1 (by omega) (by omega)) ?_;rw[<-show nD 1=Dy.of (decide ((1:Int)<0)) (1:Int).natAbs 0 from rfl];have pc:=qlu (nD 1) (nD_ok (by omega)).w;rw[if_pos (nD_ok (k:=1) (by omega)).valid]at pc;simp;refine zq pc ?_;simp[Iv.pow,hk,hp,lim]
 have e1:=q8f x.lo n p false (by omega) o1;have e2:=q8f x.hi n p true (by omega) o2;have e3:=q8f x.abs.lo n p false (by omega) o3;have e4:=q8f x.abs.hi n p true (by omega) o4;by_cases hr:Int.tmod n 2=0
 ·simp[h0,h16,hz,hr];refine qaa rfl rfl rfl (qafg x wx) ?_;generalize hy:x.abs=y at *
  simp;refine zq e3 ?_;simp;refine zq e4 ?_;simp;refine qaa rfl rfl rfl (ql5 (endE y.lo n p false) (endE y.hi n p true)) ?_;simp[Iv.pow,hk,hp,h0',h16',hz,hr,hy,lim]
 ·simp[h0,h16,hz,hr];refine zq e1 ?_;simp;refine zq e2 ?_;simp;refine qaa rfl rfl rfl (ql5 (endE x.lo n p false) (endE x.hi n p true)) ?_;simp[Iv.pow,hk,hp,h0',h16',hz,hr,lim]
end Go.Abs.W
