import Derived.Test.YtblicjipogbhmaaGreatDoorFg
import Derived.Test.YtblicjipogbhmaaGreatDoorFf
namespace Go.Abs.W
theorem Qz (p:Int):CQ prog q1m [.int .i64 p] (.bool (decide (8<=p)&&decide (p<=512))):=by
 refine ap rfl fun H=>?_
 simp;grind
theorem Sw (a:List Nat)(n:Nat)(b:a.length<=256)(d:Li a)(c:n<=65536):CQ prog Y3 [lim a,.int .i64 n] (.tup [lim (cl (aa a*2^n)),.int .i64 (ut (aa a*2^n))]):=rf a n b d c
theorem qJ (a:List Nat)(n:Nat)(b:a.length<=256)(d:Li a)(c:n<=65536):CQ prog Ri [lim a,.int .i64 n] (lim (cl (aa a*2^n))):=by
 refine ap rfl fun H=>?_
 simp;refine ak rfl rfl rfl (Sw a n b d c) ?_;simp
theorem NR {M n:Nat}:M/2^min n (ac M)=M/2^n/\(M%2^min n (ac M)=0↔M%2^n=0):=by
 rcases Nat.le_total n (ac M)with h|h
 ·rw[WW h];exact⟨rfl,Xo⟩
 ·rw[Nat.min_eq_right h];have a:=eM M;have b:M<2^n:=Vx a (Vg (by omega) h);rw[We a,We b,VO a,VO b];exact⟨rfl,Xo⟩
theorem yJ (a:List Nat)(n:Nat)(i:a.length<=256)(d:Li a)(w:n<=1000000):CQ prog Rj [lim a,.int .i64 n] (.tup [lim (aB (aa a/2^n)),.bool (decide (aa a%2^n≠0))]):=by
 refine ap rfl fun H=>?_
 have r:=bz d;rw[bB]at r;have s:=gD r;obtain⟨p,q⟩:=NR (M:=aa a) (n:=n);have⟨k,u⟩:∃k,k=min n (ac (aa a)):=⟨_,rfl⟩
 rw[<-u]at p q;rw[<-p,show decide (aa a%2^n≠0)=decide (aa a%2^k≠0) by rw[aai];exact not_congr q.symm];have f:aa a/2^k*2^k<=aa a:=WT _ _;have j:cl (aa a/2^k*2^k)=aB (aa a/2^k*2^k):=cR (Vp (i6 f (limbsOf_len.2 (bz d))) i);have l:(aB (aa a/2^k)).length<=256:=Vp (i6 (VY _ _) (limbsOf_len.2 (bz d))) i;have v:(aB (aa a/2^k*2^k)).length<=256:=Vp (i6 f (limbsOf_len.2 (bz d))) i;have g:aL (aa a/2^k*2^k) (aa a)=0↔aa a%2^k=0:=by
  have e:=WY (aa a) (2^k);unfold aL;split
  ·constructor
   ·intro h;omega
   ·intro h;omega
  ·split
   ·omega
   ·constructor
    ·intro _;omega
    ·intro _;rfl
 have t:=sj a k i d (by omega);have m:=qJ (aB (aa a/2^k)) k l (aY _) (by omega);rw[aP,j]at m;have o:=my (aB (aa a/2^k*2^k)) a (by omega) (by omega) (aY _) d;rw[aP]at o;simp;refine ak rfl rfl rfl (po a (by omega) d) ?_;by_cases b:ac (aa a)<n
 ·have c:ac (aa a)=k:=by omega
  rw[c]at b ⊢;simp[i64,b];refine ak rfl rfl rfl (po a (by omega) d) ?_;rw[c];simp[i64];refine zq t ?_;simp;refine zq m ?_;simp;refine zq o ?_;simp[i64,g]
 ·have c:n=k:=by omega
  rw[c]at b ⊢;simp[i64,b];refine zq t ?_;simp;refine zq m ?_;simp;refine zq o ?_;simp[i64,g]
set_option maxHeartbeats 4000000
def dB : Nat->AC->AC
 |n+1,.seq _ b=>dB n b
 |_,c=>c
def fN (p:Nat)(up:Bool)(U:Int)(q:Nat):Dy × Int:=
 if(16384:Int)<ac q+U then(if up then(Dy.zero,9)else((Dy.of false (2^p-1) (16384-p)).chk,(Dy.of false (2^p-1) (16384-p)).chkE))
 else((Dy.of false q U).chk,(Dy.of false q U).chkE)
theorem iT {q b:Nat}(h:ac q<=b)(a:b<=8192):(aB q).length<=256:=
 ny (Vx (eM q) (Vg (by omega) h)) (by omega)
theorem As {H:ab}{X:Option Blk}{E:aA}(G:ab)(p:Nat)(up:Bool)(U:Int)(q:Nat)(A:8<=p)(F:p<=512)(w:-16384<=U)(y:U<=200000)(C:ac q<=5000)
 (n:E 1=.int .i64 p) (o:E 2=.bool up) (h:E 6=.ptr (H.length+1) 0 0) (i:E 8=.int .i64 U) (r:E 9=lim (aB q)) :
 WC prog H.length (dB 5 c_round_cut.body) E (H++X :: some ⟨3,[.agg [.bool false,.nil,.int .i64 0]],false,true⟩ :: G) (fun x u e=>(x=.normal\/x=.ret)/\∃t,d8 u e [.cell 6 true 3,.tmp 7]=some t/\fin false H.length e t=some (.tup [(fN p up U q).1.v,.int .i64 (fN p up U q).2],H)):=by
 have z:=iT C (by omega);have l:=po (aB q) (by omega) (aY q);rw[aP]at l;have f:IntKind.i64.wrap ((ac q:Int)+U)=ac q+U:=by rw[wrap_i64]<;>omega
 refine pK ?_;simp[dB,r];refine zq l ?_;by_cases a:(16384:Int)<ac q+U
 ·cases up
  ·have s:Li [1]:=by intro x D;simp at D;omega
   have k:aa [1]=1:=rfl;have g:1<=2^p:=aaB;have c:(aB (2^p)).length<=256:=ny (B:=p+1) (WA (by omega) (by omega)) (by omega);have sc:=qJ [1] p (by simp) s (by omega);rw[k,WH,cR c]at sc;have m:=Bk (aB (2^p)) [1] c (by simp) (aY _) s (by rw[aP,k];exact g);rw[aP,k]at m;have j:(aB (2^p-1)).length<=256:=i6 (Xq _ _) c;have v:IntKind.i64.wrap (16384-(p:Int))=16384-(p:Int):=by rw[wrap_i64]<;>omega
   have d:=Dp false (aB (2^p-1)) (16384-p) j (aY _) (by omega) (by omega);rw[aP]at d;simp[n,o,i,f,a,i64];refine bt (args:=[.ref (H.length+(G.length+2)) 1 0 1,.int .i64 p]) (vs:=[lim [1],.int .i64 p]) (H1:=H++X :: some ⟨3,[.agg [.bool false,.nil,.int .i64 0]],false,true⟩ :: (G++[some ⟨1,[.int .u32 1],true,false⟩])) rfl ?_ ?_ sc ?_
   ·simp
   ·refine WZ (b:=ah _ _) rfl ?_;simp[ah,aF,gk,lim,u32]
   simp;refine bt (args:=[lim (aB (2^p)),.ref (H.length+(G.length+3)) 1 0 1]) (vs:=[lim (aB (2^p)),lim [1]]) (H1:=H++X :: some ⟨3,[.agg [.bool false,.nil,.int .i64 0]],false,true⟩ :: (G++[some ⟨1,[.int .u32 1],true,false⟩,some ⟨1,[.int .u32 1],true,false⟩])) rfl ?_ ?_ m ?_
   ·simp
   ·refine WZ (b:=ah _ _) rfl ?_;simp[ah,aF,gk,lim,u32]
   simp[n,v];refine zq d ?_;simp[h,fN,a,lim]
  ·simp[o,h,i,f,a,i64,fN,Dy.zero,lim]
 ·have d:=Dp false (aB q) U z (aY _) (by omega) (by omega);rw[aP]at d;simp[i,r,f,a,i64];refine zq d ?_;simp[h,fN,a,lim]
theorem UU {H:ab}{X:Option Blk}{E:aA}(p:Nat)(up a:Bool)(U:Int)(q:Nat)(o:8<=p)(w:p<=512)(l:-16384<=U)(m:U<=200000)(y:ac q<=4990)
 (e:E 1=.int .i64 p) (c:E 2=.bool up) (g:E 6=.ptr (H.length+1) 0 0) (i:E 8=.int .i64 U) (j:E 9=lim (aB q)) (f:E 10=.bool a) :
 WC prog H.length (dB 4 c_round_cut.body) E (H++[X,some ⟨3,[.agg [.bool false,.nil,.int .i64 0]],false,true⟩]) (fun x r d=>(x=.normal\/x=.ret)/\∃z,d8 r d [.cell 6 true 3,.tmp 7]=some z /\
  fin false H.length d z=some (.tup [(fN p up U (q+if a&&up then 1 else 0)).1.v,.int .i64 (fN p up U (q+if a&&up then 1 else 0)).2],H)):=by
 refine ff (b:=dB 5 c_round_cut.body) ?_;refine b9 ?_;have B:=iT y (by omega);have u:(aB q).length<=160:=ny (Vx (eM q) (Vg (by omega) y)) (by omega);by_cases s:a=true/\up=true
 ·obtain⟨rfl,rfl⟩:=s;have D:Li [1]:=by intro x C;simp at C;omega
  have F:aa [1]=1:=rfl;have n:(aB (q+1)).length<=256:=by
   have:=AN (X:=q) (Y:=1) (k:=160) u (limbsOf_len.2 (Vx (by omega) (Vg (by omega:0<4294967296) (show 1<=160 by omega))));omega
  have t:ac (q+1)<=5000:=by
   refine Vp (gD (b:=ac q+1) ?_) (by omega);have:=eM q;rw[VH];omega
  have v:=Dq (aB q) [1] B (by simp) (aY q) D;rw[aP,F,cR n,oa n]at v;simp[c,j,f];refine bt (args:=[lim (aB q),.ref (H.length+2) 1 0 1]) (vs:=[lim (aB q),lim [1]]) (H1:=H++X :: some ⟨3,[.agg [.bool false,.nil,.int .i64 0]],false,true⟩ :: [some ⟨1,[.int .u32 1],true,false⟩]) rfl ?_ ?_ v ?_
  ·simp
  ·refine WZ (b:=ah _ _) rfl ?_;simp[ah,aF,gk,lim,u32]
  simp;refine fw (As [some ⟨1,[.int .u32 1],true,false⟩] p true U (q+1) o w l m t (by simp[e]) (by simp[c]) (by simp[g]) (by simp[i]) (by simp)) (fun x r d h=>by simpa using h)
 ·have A:(if(a&&up)=true then 1 else 0)=0:=by
   cases a<;>cases up<;>simp at s ⊢
  rw[A,VF];have ct:=fun(E:aA) e c g i j=>As (H:=H) (X:=X) (E:=E) [] p up U q o w l m (by omega) e c g i j
  cases up
  ·simp[c];refine fw (ct _ (by simp[e]) (by simp[c]) (by simp[g]) (by simp[i]) (by simp[j])) (fun x r d h=>by simpa using h)
  ·cases a
   ·simp[c,f];refine fw (ct _ (by simp[e]) (by simp[c]) (by simp[g]) (by simp[i]) (by simp[j])) (fun x r d h=>by simpa using h)
   ·simp at s
def gV (m:List Nat)(e:Int)(more:Bool):V:=.agg [lim m,.int .i64 e,.bool more]
theorem xh (m:List Nat)(e:Int)(more:Bool)(p:Nat)(up:Bool)(B:m.length<=256)(lm:Li m)(F:ac (aa m)<=8192)(G:-50000<=e)(I:e<=50000)(g:8<=p)(u:p<=512)
 (U:Int) (A:U=max (e+ac (aa m)-p) (-16384)) (f:more=true->p<ac (aa m)) (q:Nat) (a:Bool)
 (C:U<=e->q=aa m*2^(e-U).toNat/\a=more) (D:e<U->q=aa m/2^(U-e).toNat/\a=(more ||decide (aa m%2^(U-e).toNat≠0))) :
 CQ prog q1n [gV m e more,.int .i64 p,.bool up] (.tup [(fN p up U (q+if a&&up then 1 else 0)).1.v,.int .i64 (fN p up U (q+if a&&up then 1 else 0)).2]):=by
 refine jj rfl fun H=>?_
 have z:=po m (by omega) lm;have⟨b,d⟩:∃b,b=ac (aa m):=⟨_,rfl⟩
 rw[<-d]at z F A f;have K:IntKind.i64.wrap (e+(b:Int))=e+b:=by rw[wrap_i64]<;>omega
 have M:IntKind.i64.wrap (e+(b:Int)-p)=e+b-p:=by rw[wrap_i64]<;>omega
 have n:(if e+(b:Int)-p < -16384 then -16384 else e+(b:Int)-p)=U:=by rw[A];split<;>omega
 refine ff (b:=dB 1 c_round_cut.body) ?_;refine b9 ?_;simp[gV];refine ff (b:=dB 2 c_round_cut.body) ?_;refine b9 ?_;simp;refine zq z ?_;simp[i64,K,M,n];refine ff (b:=dB 3 c_round_cut.body) ?_;refine b9 ?_;simp;refine ff (b:=dB 4 c_round_cut.body) ?_;refine b9 ?_;by_cases i:U<=e
 ·obtain⟨rfl,rfl⟩:=C i;have⟨j,o⟩:∃j,j=(e-U).toNat:=⟨_,rfl⟩
  rw[<-o];have v:IntKind.i64.wrap (e-U)=(j:Int):=by rw[wrap_i64]<;>omega
  have c:ac (aa m*2^j)<=4990:=by
   by_cases l:aa m=0
   ·rw[l,WR,iG];omega
   ·have:=kg (m:=aa m) (j:=j) (r:=0) l (Vl j);rw[VF]at this;rw[this,<-d];have:0<b:=by rw[d];exact(eF l).2.2
    omega
  have J:=iT c (by omega);have s:j<=65536:=by omega
  have sc:=qJ m j B lm s;rw[cR J]at sc;simp[i,v];refine zq sc ?_;simp;refine fw (UU p up a U _ g u (by omega) (by omega) c (by simp) (by simp) (by simp) (by simp) (by simp) (by simp)) (fun x w y h=>by simpa using h)
 ·have t:e<U:=by omega
  have k:¬U<=e:=by omega
  obtain⟨rfl,rfl⟩:=D t;have⟨j,o⟩:∃j,j=(U-e).toNat:=⟨_,rfl⟩
  rw[<-o];have v:IntKind.i64.wrap (U-e)=(j:Int):=by rw[wrap_i64]<;>omega
  have c:ac (aa m/2^j)<=4990:=by
   refine Vp (gD (b:=p) ?_) (by omega);rw[VW (Vl _),<-Vs];exact Vx (eM _) (Vg (by omega) (by omega))
  have sc:=yJ m j B lm (by omega);have⟨L,E⟩:∃L:Bool,L=decide (aa m%2^j≠0):=⟨_,rfl⟩
  rw[<-E]at sc ⊢;simp[k,v];refine zq sc ?_;cases more
  ·simp;refine fw (UU p up L U _ g u (by omega) (by omega) c (by simp) (by simp) (by simp) (by simp) (by simp) (by simp)) (fun x w y h=>by simpa using h)
  ·simp;refine fw (UU p up true U _ g u (by omega) (by omega) c (by simp) (by simp) (by simp) (by simp) (by simp) (by simp)) (fun x w y h=>by simpa using h)
end Go.Abs.W
namespace Go.Abs.W
theorem wZ {n:Nat}(h:n≠0):ac (n/2^tz n)+tz n=ac n:=(uc (gZ h)).symm
theorem Dy.of_inR {neg:Bool}{n:Nat}{e:Int}(b:ac n<=4096)(c:-16384<=e)(d:ac n+e<=16384):(Dy.of neg n e).inR=true:=by
 unfold Dy.of;by_cases h:n=0
 ·rw[Vh h];rfl
 ·rw[Vk h];have f:=wZ h;have a:n/2^tz n≠0:=by
   have:=(mE h).1;omega
  have g:=(eF a).2.2;unfold Dy.inR;simp only[aP];generalize ac (n/2^tz n)=B at *
  simp only[WF,VA,VT];right;omega
theorem Dy.chk_of {d:Dy}(h:d.inR=true):d.chk=d/\d.chkE=0:=by simp[Dy.chk,Dy.chkE,h]
theorem su {m:Nat}{e:Int}{more:Bool}{p:Nat}{out:Bool}:be m e more p out<=2^p:=by
 have a:m/2^a8 m e p<2^p:=by
  rw[VW (Vl _),<-Vs];refine Vx (eM m) (Vg (by omega) ?_);unfold a8;omega
 unfold be;split<;>omega
theorem UT {m:Nat}{e:Int}{more:Bool}{p:Nat}{out:Bool}:ac (be m e more p out)<=p+1:=
 gD (V4 su (WA (by omega) (by omega)))
theorem Kt {m:Nat}{e:Int}{p:Nat}:-16384<=e+a8 m e p:=by unfold a8;omega
theorem s6 {neg:Bool}{p:Nat}(a:1<=p)(b:p<=512):(Dy.of neg (2^p-1) (16384-p)).inR=true:=by
 have c:ac (2^p-1)<=p:=gD (by have:=Vl p;omega);exact Dy.of_inR (by omega) (by omega) (by omega)
theorem zr {neg:Bool}{m:Nat}{e:Int}{more:Bool}{p:Nat}{up:Bool}(d:p<=512)(h:¬(be m e more p (neg != up)≠0/\(16384:Int)<ac (be m e more p (neg != up))+(e+a8 m e p)))(a:Bool) :
 (Dy.of a (be m e more p (neg != up)) (e+a8 m e p)).inR=true:=by
 by_cases c:be m e more p (neg != up)=0
 ·rw[c];unfold Dy.of;rw[Vh rfl];rfl
 ·have f:=UT (m:=m) (e:=e) (more:=more) (p:=p) (out:=neg != up);exact Dy.of_inR (by omega) Kt (by
   rcases V5 16384 (ac (be m e more p (neg != up))+(e+a8 m e p))with b|b
   ·exact absurd ⟨c,b⟩ h
   ·exact b)
theorem Dy.zero_ok : Dy.zero.Ok:=Dy.Ok.of (by intro x a;simp[Dy.zero]at a) rfl
theorem tH {neg:Bool}{m:Nat}{e:Int}{more:Bool}{p:Nat}{up:Bool}(b:1<=p)(a:p<=512):(aN neg m e more p up).1.Ok:=by
 unfold aN;split
 ·split
  ·exact Dy.zero_ok
  ·exact Dy.of_ok (s6 b a)
 ·rename_i h;exact Dy.of_ok (zr a h neg)
theorem Aq {M:Nat}{e:Int}{more:Bool}{p:Nat}{out:Bool}{U:Int}{q:Nat}{b:Bool}(z:1<=p)(G:p<=512)(g:more=true->p<ac M)(A:M=0->e<=16384)
 (D:U=max (e+ac M-p) (-16384))
 (B:U<=e->q=M*2^(e-U).toNat/\b=more) (C:e<U->q=M/2^(U-e).toNat/\b=(more ||decide (M%2^(U-e).toNat≠0))) :
 fN p out U (q+if b&&out then 1 else 0)=aN false M e more p out:=by
 have s:=s6 (neg:=false) z G;by_cases w:U<=e
 ·obtain⟨rfl,rfl⟩:=B w;have F:b=false:=by
   cases h:b with
   |false=>rfl
   |true=>have:=g h;omega
  subst F;have⟨j,E⟩:∃j,j=(e-U).toNat:=⟨_,rfl⟩
  rw[<-E];have l:a8 M e p=0:=by unfold a8;omega
  have t:∀o,be M e false p o=M:=by intro o;simp[be,l,XO]
  have f:U=e-j:=by omega
  have y:=Dy.of_shift (neg:=false) (n:=M) (j:=j) (e:=e);simp only[Bool.false_and,Vv,V8,VF];unfold fN aN;rw[t,l,f,y];by_cases hM:M=0
  ·subst hM;have:=A rfl;have i:¬(16384:Int)<ac (0*2^j)+(e-j):=by rw[WR,iG];omega
   rw[Vk i,Vk (by simp)];have a:(Dy.of false 0 e).inR=true:=rfl;rw[(Dy.chk_of a).1,(Dy.chk_of a).2];simp[Dy.of]
  ·have u:=kg (m:=M) (j:=j) (r:=0) hM (Vl j);rw[VF]at u;rw[u];by_cases c:(16384:Int)<ac M+e
   ·have i:(16384:Int)<(ac M+j:Nat)+(e-j):=by omega
    have k:M≠0/\(16384:Int)<ac M+(e+(0:Nat)):=⟨hM,by omega⟩
    rw[Vh i,Vh k,(Dy.chk_of s).1,(Dy.chk_of s).2];cases out<;>rfl
   ·have i:¬(16384:Int)<(ac M+j:Nat)+(e-j):=by omega
    have k:¬(M≠0/\(16384:Int)<ac M+(e+(0:Nat))):=by omega
    rw[Vk i,Vk k];have a:(Dy.of false M e).inR=true:=Dy.of_inR (by omega) (by omega) (by omega);rw[(Dy.chk_of a).1,(Dy.chk_of a).2];simp
 ·have x:e<U:=by omega
  obtain⟨rfl,rfl⟩:=C x;have l:a8 M e p=(U-e).toNat:=by unfold a8;omega
  have t:M/2^(U-e).toNat+(if((more ||decide (M%2^(U-e).toNat≠0))&&out)=true then 1 else 0)=be M e more p out:=by
   unfold be;rw[l]
  rw[t];have f:e+(a8 M e p:Int)=U:=by omega
  have v:(false != out)=out:=by cases out<;>rfl
  unfold fN aN;rw[v,f];have hz:be M e more p out=0->U<=16384:=by
   intro d;rcases V5 16384 U with h|h
   ·exfalso;have hM:M≠0:=by
     intro hM;have:=A hM;rw[hM,iG]at D;omega
    have I:a8 M e p<ac M:=by omega
    have:0<M/2^a8 M e p:=by
     rw[Nat.div_pos_iff];refine⟨Vl _,Vp (Vg (by omega) (show a8 M e p<=ac M-1 by omega)) (eF hM).1⟩
    unfold be at d;omega
   ·exact h
  by_cases c:(16384:Int)<ac (be M e more p out)+U
  ·have H:be M e more p out≠0:=by
    intro d;have:=hz d;rw[d,iG]at c;omega
   have k:be M e more p out≠0/\(16384:Int)<ac (be M e more p out)+U:=⟨H,c⟩
   rw[Vh c,Vh k,(Dy.chk_of s).1,(Dy.chk_of s).2]
  ·rw[Vk c,Vk (fun h=>c h.2)];have u:=UT (m:=M) (e:=e) (more:=more) (p:=p) (out:=out);have a:(Dy.of false (be M e more p out) U).inR=true:=Dy.of_inR (by omega) (by omega) (by omega);rw[(Dy.chk_of a).1,(Dy.chk_of a).2]
structure ExOk (m:List Nat)(e:Int)(more:Bool)(p:Nat):Prop where
 len:m.length<=256
 li:Li m
 bits:ac (aa m)<=8192
 lo:-50000<=e
 hi:e<=50000
 p8:8<=p
 p512:p<=512
 more:more=true->p<ac (aa m)
 zero:aa m=0->e<=16384
theorem vG {m:List Nat}{e:Int}{more:Bool}{p:Nat}(up:Bool)(h:ExOk m e more p):CQ prog q1n [gV m e more,.int .i64 p,.bool up] (.tup [(aN false (aa m) e more p up).1.v,.int .i64 (aN false (aa m) e more p up).2]):=by
 have⟨U,a⟩:∃U,U=max (e+ac (aa m)-p) (-16384):=⟨_,rfl⟩
 by_cases c:U<=e
 ·have b:=xh m e more p up h.len h.li h.bits h.lo h.hi h.p8 h.p512 U a h.more (aa m*2^(e-U).toNat) more (fun _=>⟨rfl,rfl⟩) (fun h=>by omega);rwa[Aq (by have:=h.p8;omega) h.p512 h.more h.zero a (fun _=>⟨rfl,rfl⟩) (fun h=>by omega)]at b
 ·have b:=xh m e more p up h.len h.li h.bits h.lo h.hi h.p8 h.p512 U a h.more (aa m/2^(U-e).toNat) (more ||decide (aa m%2^(U-e).toNat≠0)) (fun h=>by omega) (fun _=>⟨rfl,rfl⟩);rwa[Aq (by have:=h.p8;omega) h.p512 h.more h.zero a (fun h=>by omega) (fun _=>⟨rfl,rfl⟩)]at b
theorem vM {n:Nat}{e:Int}(h:(Dy.of false n e).inR=true):(Dy.of false n e).opp=Dy.of true n e:=by
 have hv:(Dy.of false n e).valid=true:=by rw[Dy.of_valid];exact h
 unfold Dy.opp;rw[hv];by_cases a:n=0
 ·subst a;simp[Dy.of,Dy.zero]
 ·have b:n/2^tz n≠0:=by
   have:=(mE a).1;omega
  simp[Dy.of,a,lE b]
theorem OS {neg:Bool}{m:Nat}{e:Int}{more:Bool}{p:Nat}{up:Bool}(c:1<=p)(b:p<=512) :
 aN neg m e more p up=if(aN false m e more p (up != neg)).2=0/\neg=true then((aN false m e more p (up != neg)).1.opp,0)else aN false m e more p (up != neg):=by
 have g:(false != (up != neg))=(neg != up):=by cases up<;>cases neg<;>rfl
 cases neg with
 |false=>
  have:(up != false)=up:=by cases up<;>rfl
  simp[this]
 |true=>
  have d:=s6 (neg:=false) c b;unfold aN;rw[g];by_cases a:be m e more p (true != up)≠0/\(16384:Int)<ac (be m e more p (true != up))+(e+a8 m e p)
  ·simp only[Vh a];cases h:(true != up)
   ·simp[vM d]
   ·simp
  ·simp only[Vk a];have f:=zr b a false;rw[vM f];simp
theorem Ct {m:List Nat}{e:Int}{more:Bool}{p:Nat}(neg up:Bool)(h:ExOk m e more p):CQ prog q34 [.bool neg,gV m e more,.int .i64 p,.bool up] (.tup [(aN neg (aa m) e more p up).1.v,.int .i64 (aN neg (aa m) e more p up).2]):=by
 have k:=h.p8;have i:=OS (neg:=neg) (m:=aa m) (e:=e) (more:=more) (p:=p) (up:=up) (by omega) h.p512;have b:=vG (up != neg) h;have a:=tH (neg:=false) (m:=aa m) (e:=e) (more:=more) (up:=up != neg) (show 1<=p by omega) h.p512;rw[i];have⟨⟨d,f⟩,g⟩:∃r,r=aN false (aa m) e more p (up != neg):=⟨_,rfl⟩
 rw[<-g]at b a ⊢;have j:=Bq d a.w;refine ap rfl fun H=>?_
 simp only[gV]at b;simp[gV];refine zq b ?_;by_cases c:f=0
 ·subst c;cases neg
  ·simp[lim]
  ·simp;refine zq j ?_;simp[lim]
 ·simp[c,lim]
def gW (l:List Dy):V:=.sl (l.map Dy.v)
def af (p:Int):Bool:=decide (8<=p)&&decide (p<=512)
def d5 (l:List Dy)(p:Int):Int:=if l.all Dy.valid then(if af p then 0 else 2)else 1
set_option maxHeartbeats 1000000 in
theorem uF (p:Int)(l:List Dy)(F:l.length<=1000000)(w:∀d ∈ l,d.W):CQ prog q7y [.int .i64 p,gW l] (.int .i64 (d5 l p)):=by
 refine ap rfl fun H=>?_
 have t:=Qz p;rw[<-show af p=(decide (8<=p)&&decide (p<=512)) from rfl]at t;simp[gW];refine aJ (fun i E o=>H <+: o/\E 0=.int .i64 p/\E 7=gW l/\E 8=.int .i64 l.length/\E 9=.int .i64 i/\(∀j x,j<i->l[j]?=some x->x.valid=true)) l.length ?_ ?_
 ·simp[gW]
 ·rintro i E o hi ⟨k,q,e,f,g,s⟩;simp only[gW]at e ⊢;rcases Vm i l.length with a|B
  ·have z:IntKind.i64.wrap ((i:Int)+1)=((i+1:Nat):Int):=by rw[wrap_i64]<;>omega
   have v:=w l[i] (Vy a);have C:l[i].valid=false->d5 l p=1:=by
    intro h;have:l.all Dy.valid=false:=by
     rw[aaI];intro A;rw[VU.1 A _ (Vy a)]at h;cases h
    simp[d5,this]
   have D:l[i].valid=true->∀(j:Nat) (x:Dy),j<i+1->l[j]?=some x->x.valid=true:=by
    intro h j x r b;rcases Vm j i with c|c
    ·exact s j x c b
    ·have:j=i:=by omega
     subst this;rw[k9 a]at b;injection b with b;rw[<-b];exact h
   have T:=jn (jx (l:=[some ⟨3,[l[i].v],false,true⟩]) k);simp only[Dy.v]at T;have u:=kE l[i] v.len v.li;simp only[Dy.v]at u;simp[Ir,e,f,g,a];refine zq u ?_;cases hv:l[i].valid
   ·rw[C hv];simp[T]
   ·simp[q,e,f,g,z];exact⟨jx k,D hv⟩
  ·have m:i=l.length:=by omega
   subst m;have y:l.all Dy.valid=true:=by
    rw[VU];intro x b;obtain⟨j,r,rfl⟩:=Xf b;exact s j _ r (k9 _)
   simp[Ir,q,f,g];refine zq t ?_;cases n:af p<;>simp[d5,y,n,jn k]
theorem Ub (d:Dy):CQ prog Qt [d.v] (gV d.m d.e false):=by
 refine ap rfl fun H=>?_
 simp[gV,lim]
theorem Dy.Ok.ex {d:Dy}(h:d.Ok){p:Nat}(b:8<=p)(a:p<=512):ExOk d.m d.e false p:=by
 have:=h.len;have:=h.bits;have:=h.elo;have:=h.ehi;exact⟨h.len,h.li,by omega,by omega,by omega,b,a,by simp,by omega⟩
def fj (d:Dy)(p:Int)(up:Bool):Dy × Int:=if d5 [d] p=0 then aN d.neg (aa d.m) d.e false p.toNat up else(Dy.zero,d5 [d] p)
def aM (a b:Dy)(p:Int)(up:Bool):Dy × Int:=
 if d5 [a,b] p=0 then aN (a.neg != b.neg) (aa a.m*aa b.m) (a.e+b.e) false p.toNat up else(Dy.zero,d5 [a,b] p)
def bI (a b:Dy)(p:Int)(c:Int):Nat:=(max 0 (p+c+ac (aa b.m)-ac (aa a.m))).toNat
def aT (a b:Dy)(p:Int)(up:Bool):Dy × Int:=
 if d5 [a,b] p=0 then
  if b.m=[]then(Dy.zero,10)else if a.m=[]then(Dy.zero,0)else
  aN (a.neg != b.neg) (aa a.m*2^bI a b p 2/aa b.m) (a.e-b.e-bI a b p 2) (decide (aa a.m*2^bI a b p 2%aa b.m≠0)) p.toNat up
 else(Dy.zero,d5 [a,b] p)
theorem kj {l:List Dy}{p:Int}(h:d5 l p=0):(∀d ∈ l,d.valid=true)/\8<=p/\p<=512:=by
 unfold d5 af at h;split at h
 ·rename_i b;split at h
  ·rename_i a;simp at a;exact⟨by simpa using b,a.1,a.2⟩
  ·omega
 ·omega
theorem Cs (d:Dy)(p:Int)(up:Bool)(w:d.W):CQ prog q7x [d.v,.int .i64 p,.bool up] (.tup [(fj d p up).1.v,.int .i64 (fj d p up).2]):=by
 refine ap rfl fun H=>?_
 have fc:=uF p [d] (by simp) (by simpa using w);simp;refine bt (args:=[.int .i64 p,.ref (H.length+2) 3 0 1]) (vs:=[.int .i64 p,gW [d]]) (H1:=H++[some ⟨3,[d.v],false,true⟩,some ⟨3,[.agg [.bool false,.nil,.int .i64 0]],false,true⟩,some ⟨3,[d.v],true,false⟩]) rfl (by simp) (by refine WZ (b:=ah _ _) rfl ?_;simp[ah,aF,gk,gW]) fc ?_;by_cases a:d5 [d] p=0
 ·obtain⟨hv,e,c⟩:=kj a;have ok:=Dy.Ok.of w.li (hv d (by simp));obtain⟨P,rfl⟩:∃P:Nat,p=P:=⟨p.toNat,by omega⟩
  have sc:=Ct d.neg up (ok.ex (p:=P) (by omega) (by omega));simp[a];refine ak rfl rfl rfl (Ub d) ?_;simp[gV];refine zq sc ?_;simp[fj,a,lim]
 ·simp[a,fj,Dy.zero,lim]
theorem zt : aa []=0:=rfl
theorem Al {a b:Nat}(_ha:a≠0)(_hb:b≠0):ac (a*b)<=ac a+ac b:=by
 refine gD ?_;rw[Vs];exact Ya (eM a) (eM b)
theorem yc (a b:Dy)(p:Int)(up:Bool)(n:a.W)(o:b.W):CQ prog Rh [a.v,b.v,.int .i64 p,.bool up] (.tup [(aM a b p up).1.v,.int .i64 (aM a b p up).2]):=by
 refine ap rfl fun H=>?_
 have fc:=uF p [a,b] (by simp) (by simp;exact⟨n,o⟩);simp;refine bt (args:=[.int .i64 p,.ref (H.length+3) 3 0 2]) (vs:=[.int .i64 p,gW [a,b]]) (H1:=H++[some ⟨3,[a.v],false,true⟩,some ⟨3,[b.v],false,true⟩,some ⟨3,[.agg [.bool false,.nil,.int .i64 0]],false,true⟩,some ⟨3,[a.v,b.v],true,false⟩]) rfl (by simp) (by refine WZ (b:=ah _ _) rfl ?_;simp[ah,aF,gk,gW]) fc ?_;by_cases g:d5 [a,b] p=0
 ·obtain⟨hv,s,r⟩:=kj g;have e:=Dy.Ok.of n.li (hv a (by simp));have f:=Dy.Ok.of o.li (hv b (by simp));obtain⟨P,rfl⟩:∃P:Nat,p=P:=⟨p.toNat,by omega⟩
  by_cases d:a.m=[]
  ·have q:aa a.m=0:=by rw[d];rfl
   simp[g,lim,d,aM,zt,nj,Dy.zero]
  ·have t:¬(a.m.length:Int)=0:=by intro h;exact d (VK (by omega))
   by_cases i:b.m=[]
   ·have q:aa b.m=0:=by rw[i];rfl
    simp[g,lim,d,i,aM,zt,nj,Dy.zero]
   ·have u:¬(b.m.length:Int)=0:=by intro h;exact i (VK (by omega))
    have w:=e.bits;have x:=f.bits;have y:=e.elo;have z:=e.ehi;have A:=f.elo;have B:=f.ehi;have c:=Al (gf e.tr d) (gf f.tr i);have j:cl (aa a.m*aa b.m)=aB (aa a.m*aa b.m):=cR (iT c (by omega));have m:=Dr a.m b.m e.len f.len e.li f.li;rw[j]at m;have v:IntKind.i64.wrap (a.e+b.e)=a.e+b.e:=by rw[wrap_i64]<;>omega
    have l:aa a.m*aa b.m≠0:=XD (gf e.tr d) (gf f.tr i);have k:ExOk (aB (aa a.m*aa b.m)) (a.e+b.e) false P:=by
     refine⟨iT c (by omega),aY _,by rw[aP];omega,by omega,by omega,by omega,by omega,by simp,by rw[aP];intro h;exact absurd h l⟩
    have sc:=Ct (a.neg != b.neg) up k;rw[aP]at sc;simp[g,lim,d,i];refine zq m ?_;simp[v];refine zq sc ?_;simp[aM,g,lim]
 ·simp[g,aM,Dy.zero,lim]
set_option maxHeartbeats 4000000
theorem U3 {A B k c:Nat}(d:A≠0)(m:B≠0)(o:0<c)(h:c+ac B<=ac A+k):c<=ac (A*2^k/B):=by
 have e:2^(c-1)<=A*2^k/B:=by
  rw[Wq (by omega)];have a:=(eF d).1;have f:=(eF d).2.2;have j:=eM B;have g:2^(c-1)*B<=2^(c-1)*2^ac B:=VN _ (by omega);have i:2^(ac A-1)*2^k<=A*2^k:=Vn _ a;rw[<-Vs]at g i;have l:2^(c-1+ac B)<=2^(ac A-1+k):=Vg (by omega) (by omega);omega
 have a:=dW e;have f:ac (2^(c-1))=c:=by
  have:=Dv (n:=2^(c-1)) (b:=c-1) (by have:=Vl (c-1);omega) (Vo _) (WA (by omega) (by omega));omega
 omega
theorem Un {neg:Bool}{A B k p:Nat}{e:Int}{up:Bool}(z:A≠0)(C:B≠0)(E:1<=p)(h:p+ac B<=ac A+k) :
 aN neg (A*2^(k+1)/B) (e-(k+1:Nat)) (decide (A*2^(k+1)%B≠0)) p up=aN neg (A*2^k/B) (e-k) (decide (A*2^k%B≠0)) p up:=by
 have l:=U3 z C E h;have⟨W,t⟩:∃W,W=A*2^k:=⟨_,rfl⟩
 have m:A*2^(k+1)=2*W:=by rw[t,VH,VE 2,Vt]
 rw[m];rw[<-t]at l ⊢;have b:0<B:=by omega
 have x:=Wy W B;have F:=WG W b;have⟨q,n⟩:∃q,q=W/B:=⟨_,rfl⟩
 have⟨r,c⟩:∃r,r=W%B:=⟨_,rfl⟩
 rw[<-n,<-c]at x;rw[<-c]at F;have a:=Wy (2*r) B;have G:=WG (2*r) b;have⟨d,g⟩:∃d,d=2*r/B:=⟨_,rfl⟩
 have⟨i,f⟩:∃i,i=2*r%B:=⟨_,rfl⟩
 have u:d<2:=by rw[g,VW b];omega
 rw[<-g,<-f]at a;have s:2*W=B*(2*q+d)+i:=by rw[VM,WM];omega
 have v:2*W/B=q*2^1+d:=by
  rw[s,XE b,We (by omega)];omega
 have w:2*W%B=i:=by rw[s,XT,VO (by omega)]
 rw[v,w,<-n,<-c];rw[<-n]at l;have o:q≠0:=by intro h;rw[h,iG]at l;omega
 have D:e-((k+1:Nat):Int)=(e-k)-(1:Nat):=by omega
 rw[D];refine pY o (by omega) ?_ (fun _=>l);rw[aaq];simp only[VT,WF];constructor
 ·intro h;rcases Wu i with j|j
  ·right;intro hz;rw[hz,j,WS]at a;omega
  ·exact .inl (by omega)
 ·intro h j;rw[j,WS]at a;have y:B*d=0:=by omega
  have H:d=0:=by
   rcases Nat.mul_eq_zero.1 y with h|h
   ·omega
   ·exact h
  omega
theorem Pa {a b:Dy}{p:Nat}:(bI a b p 3=bI a b p 2+1/\p+2+ac (aa b.m)=ac (aa a.m)+bI a b p 2)\/(bI a b p 3=bI a b p 2/\p+3+ac (aa b.m)<=ac (aa a.m)+bI a b p 2)\/(bI a b p 3=bI a b p 2+1/\p+2+ac (aa b.m)<=ac (aa a.m)+bI a b p 2):=by
 unfold bI;omega
theorem yb (a b:Dy)(p:Int)(up:Bool)(Q:a.W)(S:b.W):CQ prog Rg [a.v,b.v,.int .i64 p,.bool up] (.tup [(aT a b p up).1.v,.int .i64 (aT a b p up).2]):=by
 refine ap rfl fun H=>?_
 have fc:=uF p [a,b] (by simp) (by simp;exact⟨Q,S⟩);simp;refine bt (args:=[.int .i64 p,.ref (H.length+3) 3 0 2]) (vs:=[.int .i64 p,gW [a,b]]) (H1:=H++[some ⟨3,[a.v],false,true⟩,some ⟨3,[b.v],false,true⟩,some ⟨3,[.agg [.bool false,.nil,.int .i64 0]],false,true⟩,some ⟨3,[a.v,b.v],true,false⟩]) rfl (by simp) (by refine WZ (b:=ah _ _) rfl ?_;simp[ah,aF,gk,gW]) fc ?_;by_cases q:d5 [a,b] p=0
 ·obtain⟨hv,hp8,hp5⟩:=kj q;have T:=hv a (by simp);have U:=hv b (by simp);have s:=Dy.Ok.of Q.li T;have t:=Dy.Ok.of S.li U;obtain⟨P,rfl⟩:∃P:Nat,p=P:=⟨p.toNat,by omega⟩
  by_cases v:b.m=[]
  ·simp[q,lim,v,aT,Dy.zero]
  ·by_cases C:a.m=[]
   ·simp[q,lim,C,v,aT,Dy.zero]
   ·have Y:=s.bits;have Z:=t.bits;have h1:=s.elo;have h2:=s.ehi;have h3:=t.elo;have h4:=t.ehi;have z:=gf s.tr C;have G:=gf t.tr v;have e:=Ug a Q;have f:=Ug b S;rw[T]at e;rw[U]at f;have L:ac (aa a.m)+bI a b P 3<=4620/\P+3+ac (aa b.m)<=ac (aa a.m)+bI a b P 3/\bI a b P 3<=4620:=by unfold bI;omega
    obtain⟨O,B,k3⟩:=L;have i:=U3 z G (by omega) B;have c:(if(ac (aa a.m):Int)<(P:Int)+3+ac (aa b.m)then(P:Int)+3+ac (aa b.m)-ac (aa a.m)else 0)=(bI a b P 3:Int):=by unfold bI;split<;>omega
    have d:aT a b P up=aN (a.neg != b.neg) (aa a.m*2^bI a b P 3/aa b.m) (a.e-b.e-bI a b P 3) (decide (aa a.m*2^bI a b P 3%aa b.m≠0)) P up:=by
     rw[aT,Vh q,Vk v,Vk C,W3];rcases Pa (a:=a) (b:=b) (p:=P)with ⟨w,s2⟩|⟨w,_⟩|⟨w,s2⟩
     ·rw[w,Un z G (by omega) (by omega)]
     ·rw[w]
     ·rw[w,Un z G (by omega) (by omega)]
    have⟨k,hk⟩:∃k,k=bI a b P 3:=⟨_,rfl⟩
    rw[<-hk]at O B k3 i c d;have⟨x,u⟩:∃x,x=ac (aa a.m):=⟨_,rfl⟩
    have⟨o,J⟩:∃o,o=ac (aa b.m):=⟨_,rfl⟩
    rw[<-u]at Y e O B c;rw[<-J]at Z f B c;have w1:IntKind.i64.wrap ((P:Int)+3)=(P:Int)+3:=by rw[wrap_i64]<;>omega
    have w2:IntKind.i64.wrap ((P:Int)+3+o)=(P:Int)+3+o:=by rw[wrap_i64]<;>omega
    have w3:IntKind.i64.wrap ((P:Int)+3+o-x)=(P:Int)+3+o-x:=by rw[wrap_i64]<;>omega
    have w4:IntKind.i64.wrap (a.e-k)=a.e-k:=by rw[wrap_i64]<;>omega
    have w5:IntKind.i64.wrap (a.e-k-b.e)=a.e-b.e-k:=by rw[wrap_i64]<;>omega
    have l:ac (aa a.m*2^k)<=4620:=by
     have:=kg (m:=aa a.m) (j:=k) (r:=0) z (Vl k);rw[VF]at this;rw[this,<-u];exact O
    have A:=iT l (by omega);have sc:=qJ a.m k s.len s.li (by omega);rw[cR A]at sc;have F:=DR (aB (aa a.m*2^k)) b.m A t.len (aY _) t.li (by omega);rw[aP]at F;have⟨W,hW⟩:∃W,W=aa a.m*2^k:=⟨_,rfl⟩
    rw[<-hW]at l A sc F i d;have N:ac (W/aa b.m)<=4620:=Vp (dW (VY _ _)) l;have M:=iT N (by omega);have hrl:(aB (W%aa b.m)).length<=256:=Vp (i6 (abX _ _) (Vo _)) A;have E:=po (aB (W%aa b.m)) (by omega) (aY _);rw[aP]at E;have g:decide (W%aa b.m≠0)=decide (0<ac (W%aa b.m)):=by
     rw[aai];have:=bitL_eq0 (n:=W%aa b.m);omega
    have K:ExOk (aB (W/aa b.m)) (a.e-b.e-k) (decide (W%aa b.m≠0)) P:=by
     refine⟨M,aY _,by rw[aP];omega,by omega,by omega,by omega,by omega,?_,?_⟩
     ·intro _;rw[aP];omega
     ·rw[aP];intro h;rw[h,iG]at i;omega
    have y:=Ct (a.neg != b.neg) up K;rw[aP,<-d,g]at y;have⟨D,I⟩:∃D,D=ac (W%aa b.m):=⟨_,rfl⟩
    rw[<-I]at E y;simp only[gV]at y;simp[q,lim,C,v,w1];refine zq f ?_;simp[w2];refine zq e ?_;simp[w3,c];refine zq sc ?_;simp;refine zq F ?_;simp[w4,w5];refine zq E ?_;simp[i64];refine ak (vs:=[.bool (a.neg != b.neg),.agg [lim (aB (W/aa b.m)),.int .i64 (a.e-b.e-k),.bool (decide (0<D))],.int .i64 P,.bool up]) rfl rfl ?_ y ?_
    ·refine WZ (b:=ah _ _) rfl ?_;simp[ah,aF];cases a.neg<;>cases b.neg<;>rfl
    simp[lim]
 ·simp[q,aT,Dy.zero,lim]
def hI (d:Dy)(p:Int):Nat:=
 (max 0 (2*p+4-ac (aa d.m))).toNat+(if(d.e-(max 0 (2*p+4-ac (aa d.m))).toNat)%2=0 then 0 else 1)
def bv (d:Dy)(p:Int)(up:Bool):Dy × Int:=
 if d5 [d] p=0 then
  if d.neg then(Dy.zero,2)else if d.m=[]then(Dy.zero,0)else
  aN false (a5 (aa d.m*2^hI d p)) ((d.e-hI d p)/2) (decide (a5 (aa d.m*2^hI d p)*a5 (aa d.m*2^hI d p)≠aa d.m*2^hI d p)) p.toNat up
 else(Dy.zero,d5 [d] p)
theorem ze {m c:Nat}(h:2*c<=ac m+1)(j:0<c):c<=ac (a5 m)/\ac (a5 m)<=ac m:=by
 have f:m≠0:=by intro a;rw[a,iG]at h;omega
 have d:2^(c-1)<=a5 m:=by
  refine rA ?_;rw[<-Vs];exact Vp (Vg (by omega) (by omega)) (eF f).1
 have g:=dW d;have i:ac (2^(c-1))=c:=by
  have:=Dv (n:=2^(c-1)) (b:=c-1) (by have:=Vl (c-1);omega) (Vo _) (WA (by omega) (by omega));omega
 refine⟨by omega,dW ?_⟩;have e:=(kF m).1;rcases Wu (a5 m)with h|h
 ·omega
 ·exact Vp (aaZ _ h) e
theorem Ab (d:Dy)(p:Int)(up:Bool)(w:d.W):CQ prog RZ [d.v,.int .i64 p,.bool up] (.tup [(bv d p up).1.v,.int .i64 (bv d p up).2]):=by
 refine ap rfl fun H=>?_
 have fc:=uF p [d] (by simp) (by simpa using w);simp;refine bt (args:=[.int .i64 p,.ref (H.length+2) 3 0 1]) (vs:=[.int .i64 p,gW [d]]) (H1:=H++[some ⟨3,[d.v],false,true⟩,some ⟨3,[.agg [.bool false,.nil,.int .i64 0]],false,true⟩,some ⟨3,[d.v],true,false⟩]) rfl (by simp) (by refine WZ (b:=ah _ _) rfl ?_;simp[ah,aF,gk,gW]) fc ?_;by_cases u:d5 [d] p=0
 ·obtain⟨hv,hp8,hp5⟩:=kj u;have Z:=hv d (by simp);have od:=Dy.Ok.of w.li Z;obtain⟨P,rfl⟩:∃P:Nat,p=P:=⟨p.toNat,by omega⟩
  cases a:d.neg
  ·by_cases A:d.m=[]
   ·simp[u,a,lim,A,bv,Dy.zero]
   ·have F:=od.bits;have h1:=od.elo;have h2:=od.ehi;have hA:=gf od.tr A;have D:=Ug d w;rw[Z]at D;have e:bv d P up=aN false (a5 (aa d.m*2^hI d P)) ((d.e-hI d P)/2) (decide (a5 (aa d.m*2^hI d P)*a5 (aa d.m*2^hI d P)≠aa d.m*2^hI d P)) P up:=by
     rw[bv,Vh u,a,Vk (by simp),Vk A,W3]
    have hk:hI d P<=1040/\ac (aa d.m)+hI d P<=4100/\2*P+4<=ac (aa d.m)+hI d P/\(d.e-hI d P)%2=0:=by unfold hI;split<;>omega
    obtain⟨k1,W,k3,k4⟩:=hk;have⟨f,n⟩:∃f,f=(max 0 (2*(P:Int)+4-ac (aa d.m))).toNat:=⟨_,rfl⟩
    have i:(if(ac (aa d.m):Int)<2*(P:Int)+4 then 2*(P:Int)+4-ac (aa d.m)else 0)=(f:Int):=by rw[n];split<;>omega
    have o:hI d P=f+(if(d.e-f)%2=0 then 0 else 1):=by rw[hI,n]
    have⟨k,I⟩:∃k,k=hI d P:=⟨_,rfl⟩
    rw[<-I]at k1 W k3 k4 o e;have⟨L,Q⟩:∃L,L=ac (aa d.m):=⟨_,rfl⟩
    rw[<-Q]at F D W k3 i n;have w1:IntKind.i64.wrap (2*(P:Int))=2*(P:Int):=by rw[wrap_i64]<;>omega
    have w2:IntKind.i64.wrap (2*(P:Int)+4)=2*(P:Int)+4:=by rw[wrap_i64]<;>omega
    have w3:IntKind.i64.wrap (2*(P:Int)+4-L)=2*(P:Int)+4-L:=by rw[wrap_i64]<;>omega
    have w4:IntKind.i64.wrap (d.e-f)=d.e-f:=by rw[wrap_i64]<;>omega
    have w5:IntKind.i64.wrap (d.e-k)=d.e-k:=by rw[wrap_i64]<;>omega
    have w6:IntKind.i64.wrap ((f:Int)+1)=(f:Int)+1:=by rw[wrap_i64]<;>omega
    have⟨T,hT⟩:∃T,T=(d.e-k)/2:=⟨_,rfl⟩
    have x:d.e-k=2*T:=by omega
    rw[<-hT]at e;have Y:(d.e-k).tdiv 2=T:=by rw[x,Int.mul_tdiv_cancel_left _ (by omega)]
    have w7:IntKind.i64.wrap T=T:=by rw[wrap_i64]<;>omega
    have J:ac (aa d.m*2^k)=L+k:=by
     have:=kg (m:=aa d.m) (j:=k) (r:=0) hA (Vl k);rw[VF]at this;rw[this,<-Q]
    have⟨M,hM⟩:∃M,M=aa d.m*2^k:=⟨_,rfl⟩
    rw[<-hM]at J e;have U:=iT (q:=M) (b:=4100) (by omega) (by omega);have sc:=qJ d.m k od.len od.li (by omega);rw[<-hM,cR U]at sc;have C:=Mw (aB M) U (aY _);rw[aP]at C;obtain⟨i1,i2⟩:=ze (m:=M) (c:=P+2) (by omega) (by omega);have y:=(kF M).1;have⟨S,hS⟩:∃S,S=a5 M:=⟨_,rfl⟩
    rw[<-hS]at e C i1 i2 y;have t:=iT (q:=S) (b:=4100) (by omega) (by omega);have z:=iT (q:=S*S) (b:=4100) (by have:=dW y;omega) (by omega);have K:=Dr (aB S) (aB S) t t (aY _) (aY _);rw[aP,cR z]at K;have B:=my (aB (S*S)) (aB M) (by omega) (by omega) (aY _) (aY _);rw[aP,aP]at B;have s:decide (S*S≠M)=!decide (aL (S*S) M=0):=by
     unfold aL;by_cases h3:S*S<M
     ·have E:S*S≠M:=by omega
      simp[h3,E]
     ·have E:S*S=M:=by omega
      simp[E]
    have G:ExOk (aB S) T (decide (S*S≠M)) P:=by
     refine⟨t,aY _,by rw[aP];omega,by omega,by omega,by omega,by omega,?_,?_⟩
     ·intro _;rw[aP];omega
     ·intro _;omega
    have v:=vG up G;rw[aP,<-e,s]at v;have⟨c,hc⟩:∃c,c=aL (S*S) M:=⟨_,rfl⟩
    rw[<-hc]at B v;simp only[gV]at v;simp[u,a,lim,A,w1,w2];refine ak (args:=[d.v]) rfl (by simp[a,lim]) rfl D ?_;by_cases l:(d.e-f)%2=0
    ·have g:k=f:=by rw[o,Vh l,VF]
     have N:(d.e-(f:Int)).tmod 2=0:=by
      rw[<-g,x,Int.mul_tmod_right]
     subst g;simp[w3,i,w4,N];refine zq sc ?_;simp;refine zq C ?_;simp;refine zq K ?_;simp[w5,Y,w7];refine zq B ?_;simp[i64];refine zq v ?_;simp[lim]
    ·have g:k=f+1:=by rw[o,Vk l]
     have N:¬(d.e-(f:Int)).tmod 2=0:=by
      intro h;have:=Int.dvd_of_tmod_eq_zero h;omega
     have O:IntKind.i64.wrap ((f:Int)+1)=(k:Int):=by rw[w6];omega
     simp[w3,i,w4,N,O];refine zq sc ?_;simp;refine zq C ?_;simp;refine zq K ?_;simp[w5,Y,w7];refine zq B ?_;simp[i64];refine zq v ?_;simp[lim]
  ·have A:d.m≠[]:=fun h=>by have:=(od.zero h).1;rw[a]at this;cases this
   simp[u,a,bv,Dy.zero,lim]
 ·simp[u,bv,Dy.zero,lim]
end Go.Abs.W
namespace Go.Abs.W
theorem Bo {neg:Bool}{N:Nat}{e:Int}{p:Nat}{up:Bool} :
 aN (Dy.of neg N e).neg (aa (Dy.of neg N e).m) (Dy.of neg N e).e false p up=aN neg N e false p up:=by
 by_cases h:N=0
 ·subst h;have:Dy.of neg 0 e=⟨false,[],0⟩:=by simp[Dy.of]
  rw[this];show aN false 0 0 false p up=_;rw[nj,nj]
 ·have c:Dy.of neg N e=⟨neg,aB (N/2^tz N),e+tz N⟩:=by simp[Dy.of,h]
  rw[c];simp only[aP];obtain⟨d,_,f⟩:=mE h;have b:N=N/2^tz N*2^tz N+0:=by have:=WY N (2^tz N);omega
  have a:=pY (neg:=neg) (m:=N/2^tz N) (e:=e+tz N) (more:=false) (more2:=false) (p:=p) (up:=up) (j:=tz N) (r:=0) (by omega) (Vl _) rfl (by simp);rw[<-b,show e+(tz N:Int)-tz N=e by omega]at a;exact a.symm
def iR (a b:Dy)(p:Nat):Int:=if a.top-b.top<=2 then min (min a.e (a.top-p-8)) b.e else min a.e (a.top-p-8)
structure SumR (a b:Dy)(p:Nat)(M:Nat)(lost turned:Bool):Prop where
 bits:ac M<=4200
 more:lost=true->p<ac M
 zero:M=0->(a.sum b)=Dy.zero
 eq:∀up,aN (a.neg != turned) M (iR a b p) lost p up=aN (a.sum b).neg (aa (a.sum b).m) (a.sum b).e false p up
theorem r6 {a:Dy}(b:a.m≠[]):a.top=ac (aa a.m)+a.e:=Vk b
theorem QO {a b:Dy}{p:Nat}(w:a.m≠[])(z:b.m≠[])(j:Nat)(q:iR a b p=min a.e b.e-j)(x y:Nat)(g:x=a7 a (min a.e b.e)*2^j)(i:y=a7 b (min a.e b.e)*2^j) :
 (a.neg=b.neg->ac (x+y)<=4200->SumR a b p (x+y) false false)/\(a.neg≠b.neg->x<y->ac y<=4200->SumR a b p (y-x) false true)/\(a.neg≠b.neg->¬x<y->ac x<=4200->SumR a b p (x-y) false false):=by
 have⟨e,u⟩:∃e,e=min a.e b.e:=⟨_,rfl⟩
 rw[<-u]at q g i;have⟨X,s⟩:∃X,X=a7 a e:=⟨_,rfl⟩
 have⟨Y,t⟩:∃Y,Y=a7 b e:=⟨_,rfl⟩
 rw[<-s]at g;rw[<-t]at i;have v:=Vl j;have k:∀(neg:Bool) (N:Nat) (up:Bool),aN neg (N*2^j) (e-j) false p up=aN (Dy.of neg N e).neg (aa (Dy.of neg N e).m) (Dy.of neg N e).e false p up:=by
  intro neg N up;rw[Bo];by_cases h:N=0
  ·rw[h,WR,nj,nj]
  ·have:=pY (neg:=neg) (m:=N) (e:=e) (more:=false) (more2:=false) (p:=p) (up:=up) (j:=j) (r:=0) h v rfl (by simp);rw[VF]at this;exact this
 have zero:∀(neg:Bool),Dy.of neg 0 e=Dy.zero:=by intro neg;simp[Dy.of,Dy.zero]
 have f:a.sum b=if a.neg=b.neg then Dy.of a.neg (X+Y) e else if Y<=X then Dy.of a.neg (X-Y) e else Dy.of b.neg (Y-X) e:=by
  unfold Dy.sum;rw[Vk w,Vk z];simp only[<-u,<-s,<-t]
 refine⟨fun o l=>?_,fun o c l=>?_,fun o c l=>?_⟩
 ·rw[Vh o]at f;have hM:x+y=(X+Y)*2^j:=by rw[g,i,VI]
  refine⟨l,by simp,?_,?_⟩
  ·intro d;rw[hM]at d;have:X+Y=0:=by rcases Nat.mul_eq_zero.1 d with h|h;exact h;omega
   rw[f,this,zero]
  ·intro up;rw[f,q,hM,<-k]
   congr 1;cases a.neg<;>rfl
 ·have n:X<Y:=by
   rw[g,i]at c;exact Xv c
  rw[Vk o,Vk (by omega)]at f;have hM:y-x=(Y-X)*2^j:=by rw[g,i,X4]
  refine⟨Vp (dW (Xq _ _)) l,by simp,?_,?_⟩
  ·intro d;rw[hM]at d;exfalso;rcases Nat.mul_eq_zero.1 d with h|h<;>omega
  ·intro up;rw[f,q,hM,<-k]
   congr 1;cases A:a.neg<;>cases l:b.neg<;>simp_all
 ·have n:Y<=X:=by
   rcases Vm X Y with h|h
   ·exfalso;apply c;rw[g,i];exact V7 h v
   ·exact h
  rw[Vk o,Vh n]at f;have hM:x-y=(X-Y)*2^j:=by rw[g,i,X4]
  refine⟨Vp (dW (Xq _ _)) l,by simp,?_,?_⟩
  ·intro d;rw[hM]at d;have:X-Y=0:=by rcases Nat.mul_eq_zero.1 d with h|h;exact h;omega
   rw[f,this,zero]
  ·intro up;rw[f,q,hM,<-k]
   congr 1;cases a.neg<;>rfl
theorem PV {a b:Dy}{p:Nat}(na:a.m≠[])(nb:b.m≠[])(hA:aa a.m≠0)(j i:Nat)(K:iR a b p=b.e+j)(hi:a.e=iR a b p+i)(x:Nat)(hx:x=aa a.m*2^i)
 (hT:p+8<=ac (aa a.m)+i) (H:ac (aa a.m)+i<=4190) (Z:ac (aa b.m)+3<=ac (aa a.m)+i+j) (c:Bool) (d:c=decide (aa b.m%2^j≠0)) (y:Nat) (S:y=aa b.m/2^j) :
 (a.neg=b.neg->SumR a b p (x+y) c false)/\(a.neg≠b.neg->(if c then y+1 else y)<=x/\SumR a b p (x-(if c then y+1 else y)) c false):=by
 have he:min a.e b.e=b.e:=by omega
 have O:=Vl j;have⟨X,Y⟩:∃X,X=a7 a b.e:=⟨_,rfl⟩
 have⟨B,W⟩:∃B,B=aa b.m:=⟨_,rfl⟩
 have g:X=x*2^j:=by
  rw[Y,hx,a7,Vt,<-Vs];congr 2;omega
 have J:a7 b b.e=B:=by rw[W];simp[a7]
 have z:a.sum b=if a.neg=b.neg then Dy.of a.neg (X+B) b.e else if B<=X then Dy.of a.neg (X-B) b.e else Dy.of b.neg (B-X) b.e:=by
  unfold Dy.sum;rw[Vk na,Vk nb];simp only[he,<-Y,J]
 rw[<-W]at Z d S;have s:=WY B (2^j);have w:=WG B O;have⟨r,hr⟩:∃r,r=B%2^j:=⟨_,rfl⟩
 rw[<-hr]at s w d;rw[<-S]at s;have⟨T,q⟩:∃T,T=ac (aa a.m)+i:=⟨_,rfl⟩
 have n:ac x=T:=by
  have:=kg (m:=aa a.m) (j:=i) (r:=0) hA (Vl i);rw[VF]at this;rw[hx,this,q]
 rw[<-q]at hT H Z;have P:x≠0:=by intro h;rw[h,iG]at n;omega
 have C:=(eF P).1;rw[n]at C;have A:=eM x;rw[n]at A;have hylt:y<2^(T-3):=by
  rw[S,VW O,<-Vs];exact Vx (eM B) (Vg (by omega) (by omega))
 have e1:2^(T-1)=4*2^(T-3):=by rw[show T-1=T-3+2 by omega,Vs];omega
 have e2:2^T=8*2^(T-3):=by
  have:2^(T-3+3)=2^(T-3)*2^3:=Vs ..;rw[show T-3+3=T by omega]at this;rw[this];omega
 have e3:2^(T-2)=2*2^(T-3):=by
  have:2^(T-3+1)=2^(T-3)*2^1:=Vs ..;rw[show T-3+1=T-2 by omega]at this;rw[this];omega
 have l:∀M,2^(T-2)<=M->p<ac M/\M≠0:=by
  intro M hM;have G:M≠0:=by have:=Vl (T-2);omega
  refine⟨?_,G⟩;have D:=dW hM;have h2:ac (2^(T-2))=T-2+1:=Dv (by have:=Vl (T-2);omega) (Vo _) (WA (by omega) (by omega));omega
 refine⟨fun L=>?_,fun L=>?_⟩
 ·rw[Vh L]at z;obtain⟨E,o⟩:=l (x+y) (by omega);refine⟨?_,fun _=>E,fun h=>absurd h o,?_⟩
  ·refine Vp (gD (b:=T+1) ?_) (by omega);rw[VH];omega
  ·intro up;rw[z,Bo,K,show X+B=(x+y)*2^j+r by rw[g,VI];omega];have:=pY (neg:=a.neg) (m:=x+y) (e:=b.e+j) (more:=c) (more2:=false) (p:=p) (up:=up) (j:=j) (r:=r) o w (by rw[d];simp) (fun _=>by omega);rw[show b.e+(j:Int)-j=b.e by omega]at this;rw[this]
   congr 1;cases a.neg<;>rfl
 ·have⟨k,f⟩:∃k,k=if c then y+1 else y:=⟨_,rfl⟩
  rw[<-f];have U:k<=y+1:=by rw[f];split<;>omega
  have Q:k<=x:=by omega
  obtain⟨E,o⟩:=l (x-k) (by omega);have F:B<=X:=by
   have D:(y+1)*2^j<=x*2^j:=Vn _ (by omega);rw[VI,WH]at D;rw[g];omega
  rw[Vk L,Vh F]at z;refine⟨Q,⟨?_,fun _=>E,fun h=>absurd h o,?_⟩⟩
  ·exact Vp (dW (Xq _ _)) (by omega)
  ·intro up;by_cases v:r=0
   ·have t:c=false:=by rw[d,v];rfl
    rw[t]at f;simp at f;rw[z,Bo,K,t,show X-B=(x-k)*2^j+0 by rw[g,f,X4];omega];have:=pY (neg:=a.neg) (m:=x-k) (e:=b.e+j) (more:=false) (more2:=false) (p:=p) (up:=up) (j:=j) (r:=0) o O rfl (by simp);rw[show b.e+(j:Int)-j=b.e by omega]at this;rw[this]
    congr 1;cases a.neg<;>rfl
   ·have u:c=true:=by rw[d];simp[v]
    rw[u]at f;simp at f;have I:X-B=(x-k)*2^j+(2^j-r):=by
     rw[g,f,X4,VI,WH];have D:(y+1)*2^j<=x*2^j:=Vn _ (by omega);rw[VI,WH]at D;omega
    rw[z,Bo,K,u,I];have N:2^j-r≠0:=by omega
    have:=pY (neg:=a.neg) (m:=x-k) (e:=b.e+j) (more:=true) (more2:=false) (p:=p) (up:=up) (j:=j) (r:=2^j-r) o (by omega) (by simp[N]) (fun _=>by omega);rw[show b.e+(j:Int)-j=b.e by omega]at this;rw[this]
    congr 1;cases a.neg<;>rfl
set_option maxHeartbeats 4000000
def eT (an bn:Bool)(X Y:Nat)(lost:Bool):Nat × Bool × Bool:=
 if an=bn then(X+Y,lost,false)else
 if X<(if lost then Y+1 else Y)then((if lost then Y+1 else Y)-X,false,true)else(X-(if lost then Y+1 else Y),lost,false)
theorem Ba {H:ab}{E:aA}(a b:Dy)(X Y:Nat)(low:Int)(c:Bool)(K:ac X<=4200)(L:ac Y<=4200)
 (F:E 3=.ptr H.length 0 0) (I:E 4=.ptr (H.length+1) 0 0) (j:E 6=.ptr (H.length+2) 0 0) (k:E 8=.int .i64 low) (i:E 9=lim (aB X)) (d:E 10=lim (aB Y)) (e:E 11=.bool c) :
 WC prog H.length (dB 7 c_round_sum.body) E (H++[some ⟨3,[a.v],false,true⟩,some ⟨3,[b.v],false,true⟩,some ⟨3,[.agg [.nil,.int .i64 0,.bool false]],false,true⟩]) (fun x l g=>(x=.normal\/x=.ret)/\∃s,d8 l g [.cell 6 true 3,.tmp 7]=some s /\
  fin false H.length g s=some (.tup [gV (aB (eT a.neg b.neg X Y c).1) low (eT a.neg b.neg X Y c).2.1,.bool (eT a.neg b.neg X Y c).2.2],H)):=by
 have C:=iT K (by omega);have J:=iT L (by omega);refine pK ?_;cases t:(a.neg == b.neg)
 ·have A:¬a.neg=b.neg:=by simpa using t
  have tail:∀(E:aA) (G:ab) (f:Nat),ac f<=4201->E 6=.ptr (H.length+2) 0 0->E 8=.int .i64 low->E 9=lim (aB X)->E 10=lim (aB f)->E 11=.bool c ->
   WC prog H.length (dB 9 c_round_sum.body) E (H++some ⟨3,[a.v],false,true⟩ :: some ⟨3,[b.v],false,true⟩ :: some ⟨3,[.agg [.nil,.int .i64 0,.bool false]],false,true⟩ :: G) (fun x l g=>(x=.normal\/x=.ret)/\∃s,d8 l g [.cell 6 true 3,.tmp 7]=some s /\
    fin false H.length g s=some (.tup [gV (aB (if X<f then f-X else X-f)) low (if X<f then false else c),.bool (decide (X<f))],H)):=by
   intro E G f u j k i d e;have r:=iT u (by omega);have D:=my (aB X) (aB f) (by omega) (by omega) (aY _) (aY _);rw[aP,aP]at D;refine pK ?_;simp[dB,i,d];refine zq D ?_;by_cases p:X<f
   ·have n:=Bk (aB f) (aB X) r C (aY _) (aY _) (by rw[aP,aP];omega);rw[aP,aP]at n;simp[i64,Um,p,i,d];refine zq n ?_;simp[j,k,gV,lim]
   ·have n:=Bk (aB X) (aB f) C r (aY _) (aY _) (by rw[aP,aP];omega);rw[aP,aP]at n;simp[i64,Um,p,i,d];refine zq n ?_;simp[j,k,e,gV,lim]
  have q:eT a.neg b.neg X Y c=((if X<(if c then Y+1 else Y)then(if c then Y+1 else Y)-X else X-(if c then Y+1 else Y)),(if X<(if c then Y+1 else Y)then false else c),decide (X<(if c then Y+1 else Y))):=by
   unfold eT;rw[Vk A];clear tail;generalize (if c=true then Y+1 else Y)=f;by_cases h:X<f<;>simp[h]
  rw[q];refine ff (b:=dB 8 c_round_sum.body) ?_;refine b9 ?_;simp[F,I,t];refine ff (b:=dB 9 c_round_sum.body) ?_;refine b9 ?_;cases c
  ·simp[e];refine fw (tail _ [] Y (by omega) (by simp[j]) (by simp[k]) (by simp[i]) (by simp[d]) (by simp[e])) (fun x l g h=>by simpa using h)
  ·have N:Li [1]:=by intro x M;simp at M;omega
   have O:aa [1]=1:=rfl;have o:ac (Y+1)<=4201:=by
    refine Vp (gD (b:=ac Y+1) ?_) (by omega);have:=eM Y;rw[VH];omega
   have y:=iT o (by omega);have m:=Dq (aB Y) [1] J (by simp) (aY _) N;rw[aP,O,cR y]at m;simp[e,d];refine bt (args:=[lim (aB Y),.ref (H.length+3) 1 0 1]) (vs:=[lim (aB Y),lim [1]]) (H1:=H++some ⟨3,[a.v],false,true⟩ :: some ⟨3,[b.v],false,true⟩ :: some ⟨3,[.agg [.nil,.int .i64 0,.bool false]],false,true⟩ :: [some ⟨1,[.int .u32 1],true,false⟩]) rfl ?_ ?_ m ?_
   ·simp
   ·refine WZ (b:=ah _ _) rfl ?_;simp[ah,aF,gk,lim,u32]
   simp;refine fw (tail _ [some ⟨1,[.int .u32 1],true,false⟩] (Y+1) o (by simp[j]) (by simp[k]) (by simp[i]) (by simp) (by simp[e])) (fun x l g h=>by simpa using h)
 ·have w:a.neg=b.neg:=by simpa using t
  have v:ac (X+Y)<=4201:=by
   have⟨B,S⟩:∃B,B=4200:=⟨_,rfl⟩
   have:ac (X+Y)<=B+1:=by
    refine gD ?_;have P:X<2^B:=Vx (eM X) (Vg (by omega) (by omega));have Q:Y<2^B:=Vx (eM Y) (Vg (by omega) (by omega));rw[VH];omega
   omega
  have z:=iT v (by omega);have m:=Dq (aB X) (aB Y) C J (aY _) (aY _);rw[aP,aP,cR z]at m;simp[dB,F,I,t,i,d];refine zq m ?_;simp[j,k,e,gV,eT,w,lim]
theorem Sd (a b:Dy)(p:Nat):iR a b p<=a.e/\iR a b p<=a.top-p-8:=by
 unfold iR;split<;>omega
theorem LM (a b:Dy)(p:Nat)(y:a.Ok)(s:b.Ok)(T:a.m≠[])(U:b.m≠[])(w:b.top<=a.top)(hp8:8<=p)(hp5:p<=512) :
 ∃M c f,SumR a b p M c f/\CQ prog q1l [a.v,b.v,.int .i64 p] (.tup [gV (aB M) (iR a b p) c,.bool f]):=by
 have Z:=gf y.tr T;have hB:=gf s.tr U;have ta:=r6 T;have tb:=r6 U;have ba:=y.bits;have bb:=s.bits;have e1:=y.elo;have e2:=y.ehi;have e3:=s.elo;have e4:=s.ehi;have pa:=(eF Z).2.2;have pb:=(eF hB).2.2;have⟨low,d⟩:∃low,low=iR a b p:=⟨_,rfl⟩
 obtain⟨l1,l2⟩:=Sd a b p;rw[<-d]at l1 l2;have t:a.top-low<=4100:=by rw[d];unfold iR;split<;>omega
 have hlo2:-17000<=low:=by rw[d];unfold iR;split<;>omega
 have⟨i,hi⟩:∃i,i=(a.e-low).toNat:=⟨_,rfl⟩
 have⟨X,S⟩:∃X,X=aa a.m*2^i:=⟨_,rfl⟩
 have hXb:ac X=ac (aa a.m)+i:=by
  have:=kg (m:=aa a.m) (j:=i) (r:=0) Z (Vl i);rw[VF]at this;rw[S,this]
 have A:ac X<=4200:=by omega
 have lX:=iT A (by omega);have xc:=qJ a.m i y.len y.li (by omega);rw[<-S,cR lX]at xc;have run:∀(Y:Nat) (c:Bool),ac Y<=4200 ->
  (low<=b.e->Y=aa b.m*2^(b.e-low).toNat/\c=false)->(b.e<low->Y=aa b.m/2^(low-b.e).toNat/\c=decide (aa b.m%2^(low-b.e).toNat≠0)) ->
  CQ prog q1l [a.v,b.v,.int .i64 p] (.tup [gV (aB (eT a.neg b.neg X Y c).1) low (eT a.neg b.neg X Y c).2.1,.bool (eT a.neg b.neg X Y c).2.2]):=by
  intro Y c e hE hL;have lY:=iT e (by omega);refine jj rfl fun H=>?_
  have u:=lf a y.w;have C:=lf b s.w;rw[y.valid]at u;rw[s.valid]at C;have⟨n,N⟩:∃n,n=a.top:=⟨_,rfl⟩
  have⟨G,O⟩:∃G,G=b.top:=⟨_,rfl⟩
  rw[<-N]at u ta w l2 t;rw[<-O]at C tb w;have w1:IntKind.i64.wrap (n-p)=n-p:=by rw[wrap_i64]<;>omega
  have w2:IntKind.i64.wrap (n-p-8)=n-p-8:=by rw[wrap_i64]<;>omega
  have w3:IntKind.i64.wrap (n-G)=n-G:=by rw[wrap_i64]<;>omega
  have w4:IntKind.i64.wrap (a.e-low)=(i:Int):=by rw[wrap_i64]<;>omega
  have⟨v,L⟩:∃v,v=min a.e (n-p-8):=⟨_,rfl⟩
  have m1:(if n-(p:Int)-8<a.e then n-(p:Int)-8 else a.e)=v:=by rw[L];split<;>omega
  have o:low=if n-G<=2 then min v b.e else v:=by rw[d,iR,<-N,<-O,<-L]
  have z:∀E:aA,E 3=.ptr H.length 0 0->E 4=.ptr (H.length+1) 0 0->E 6=.ptr (H.length+2) 0 0->E 7=.bool false->E 8=.int .i64 low ->
   WC prog H.length (dB 3 c_round_sum.body) E (H++[some ⟨3,[a.v],false,true⟩,some ⟨3,[b.v],false,true⟩,some ⟨3,[.agg [.nil,.int .i64 0,.bool false]],false,true⟩]) (fun x I D=>(x=.normal\/x=.ret)/\∃v0,d8 I D [.cell 6 true 3,.tmp 7]=some v0 /\
    fin false H.length D v0=some (.tup [gV (aB (eT a.neg b.neg X Y c).1) low (eT a.neg b.neg X Y c).2.1,.bool (eT a.neg b.neg X Y c).2.2],H)):=by
   intro E W Q h6 h7 K;refine ff (b:=dB 4 c_round_sum.body) ?_;refine b9 ?_;simp[W,K,w4];refine zq xc ?_;simp;refine ff (b:=dB 5 c_round_sum.body) ?_;refine b9 ?_;simp;refine ff (b:=dB 6 c_round_sum.body) ?_;refine b9 ?_;simp;refine ff (b:=dB 7 c_round_sum.body) ?_;refine b9 ?_;by_cases g:low<=b.e
   ·obtain⟨rfl,rfl⟩:=hE g;have⟨j,F⟩:∃j,j=(b.e-low).toNat:=⟨_,rfl⟩
    rw[<-F]at lY e ⊢;have w5:IntKind.i64.wrap (b.e-low)=(j:Int):=by rw[wrap_i64]<;>omega
    have P:=qJ b.m j s.len s.li (by omega);rw[cR lY]at P;simp[Q,K,g,w5];refine zq P ?_;simp;exact fw (Ba a b X (aa b.m*2^j) low false A e (by simp[W]) (by simp[Q]) (by simp[h6]) (by simp[K]) (by simp) (by simp) (by simp)) (fun x I D h=>by simpa using h)
   ·obtain⟨rfl,rfl⟩:=hL (by omega);have⟨j,F⟩:∃j,j=(low-b.e).toNat:=⟨_,rfl⟩
    rw[<-F]at lY e ⊢;have w5:IntKind.i64.wrap (low-b.e)=(j:Int):=by rw[wrap_i64]<;>omega
    have P:=yJ b.m j s.len s.li (by omega);have⟨lo,hlo⟩:∃lo:Bool,lo=decide (aa b.m%2^j≠0):=⟨_,rfl⟩
    rw[<-hlo]at P ⊢;simp[Q,K,g,w5];refine zq P ?_;simp;exact fw (Ba a b X (aa b.m/2^j) low lo A e (by simp[W]) (by simp[Q]) (by simp[h6]) (by simp[K]) (by simp) (by simp) (by simp)) (fun x I D h=>by simpa using h)
  refine ff (b:=dB 1 c_round_sum.body) ?_;refine b9 ?_;simp;refine ff (b:=dB 2 c_round_sum.body) ?_;refine b9 ?_;simp;refine zq u ?_;simp[w1,w2,m1];refine ff (b:=dB 3 c_round_sum.body) ?_;refine b9 ?_;simp;refine zq u ?_;simp;refine zq C ?_;by_cases J:n-G<=2
  ·have m2:(if b.e<v then b.e else v)=low:=by rw[o,Vh J];split<;>omega
   simp[w3,J,m2];exact fw (z _ (by simp) (by simp) (by simp) (by simp) (by simp)) (fun x I D h=>by simpa using h)
  ·have m2:v=low:=by rw[o,Vk J]
   simp[w3,J,m2];exact fw (z _ (by simp) (by simp) (by simp) (by simp) (by simp)) (fun x I D h=>by simpa using h)
 rw[<-d];by_cases g:low<=b.e
 ·have⟨k,hk⟩:∃k,k=(b.e-low).toNat:=⟨_,rfl⟩
  have⟨Y,hY⟩:∃Y,Y=aa b.m*2^k:=⟨_,rfl⟩
  have e:ac Y=ac (aa b.m)+k:=by
   have:=kg (m:=aa b.m) (j:=k) (r:=0) hB (Vl k);rw[VF]at this;rw[hY,this]
  have hYb2:ac Y<=4199:=by omega
  have hXb2:ac X<=4199:=by omega
  have hbs:ac (X+Y)<=4200:=by
   have⟨B,hB⟩:∃B,B=4199:=⟨_,rfl⟩
   have:ac (X+Y)<=B+1:=by
    refine gD ?_;have h1:X<2^B:=Vx (eM X) (Vg (by omega) (by omega));have J:Y<2^B:=Vx (eM Y) (Vg (by omega) (by omega));rw[VH];omega
   omega
  have r:=run Y false (by omega) (fun _=>⟨by rw[hY,hk],rfl⟩) (fun h=>by omega);have⟨j,F⟩:∃j,j=(min a.e b.e-low).toNat:=⟨_,rfl⟩
  have hx:X=a7 a (min a.e b.e)*2^j:=by
   rw[S,a7,Vt,<-Vs];congr 2;omega
  have hy:Y=a7 b (min a.e b.e)*2^j:=by
   rw[hY,a7,Vt,<-Vs];congr 2;omega
  obtain⟨s1,s2,s3⟩:=QO (p:=p) T U j (by rw[<-d];omega) X Y hx hy;refine⟨_,_,_,?_,r⟩;unfold eT;by_cases q:a.neg=b.neg
  ·rw[Vh q];exact s1 q hbs
  ·rw[Vk q];simp only[Vv,V8];by_cases l:X<Y
   ·rw[Vh l];exact s2 q l (by omega)
   ·rw[Vk l];exact s3 q l (by omega)
 ·have hbig:¬a.top-b.top<=2:=by
   intro h;have:low<=b.e:=by rw[d,iR,Vh h];omega
   exact g this
  have⟨j,F⟩:∃j,j=(low-b.e).toNat:=⟨_,rfl⟩
  have e:ac (aa b.m/2^j)<=4200:=Vp (dW (VY _ _)) (by omega);have r:=run (aa b.m/2^j) (decide (aa b.m%2^j≠0)) e (fun h=>absurd h g) (fun _=>by rw[F];exact⟨rfl,rfl⟩);obtain⟨s1,s2⟩:=PV (p:=p) T U Z j i (by rw[<-d];omega) (by rw[<-d];omega) X S (by omega) (by omega) (by omega) _ rfl _ rfl;refine⟨_,_,_,?_,r⟩;unfold eT;by_cases q:a.neg=b.neg
  ·rw[Vh q];exact s1 q
  ·obtain⟨g1,g2⟩:=s2 q;rw[Vk q];have l:¬X<(if decide (aa b.m%2^j≠0)=true then aa b.m/2^j+1 else aa b.m/2^j):=by omega
   rw[Vk l];exact g2
end Go.Abs.W
namespace Go.Abs.W
def aV (a b:Dy)(p:Int)(up:Bool):Dy × Int:=
 if d5 [a,b] p=0 then aN (a.sum b).neg (aa (a.sum b).m) (a.sum b).e false p.toNat up else(Dy.zero,d5 [a,b] p)
theorem OD {a b:Dy}(f:a.m≠[])(g:b.m≠[]):a.sum b=b.sum a:=by
 unfold Dy.sum;rw[Vk f,Vk g,Vk g,Vk f];have i:min b.e a.e=min a.e b.e:=by omega
 simp only[i];generalize a7 a (min a.e b.e)=X;generalize a7 b (min a.e b.e)=Y;generalize min a.e b.e=e;by_cases c:a.neg=b.neg
 ·rw[Vh c,Vh c.symm,c,XP]
 ·have d:¬b.neg=a.neg:=fun h=>c h.symm
  rw[Vk c,Vk d];rcases XX X Y with h|h|h
  ·rw[Vk (by omega),Vh (by omega)]
  ·subst h;rw[Vh (Vo _),Vh (Vo _),aau];simp[Dy.of]
  ·rw[Vh (by omega),Vk (by omega)]
set_option maxHeartbeats 4000000 in
theorem ym (a b:Dy)(p:Int)(up:Bool)(y:a.W)(z:b.W):CQ prog Rf [a.v,b.v,.int .i64 p,.bool up] (.tup [(aV a b p up).1.v,.int .i64 (aV a b p up).2]):=by
 have fc:=uF p [a,b] (by simp) (by simp;exact⟨y,z⟩);by_cases g:d5 [a,b] p=0
 ·obtain⟨hv,hp8,hp5⟩:=kj g;have L:=hv a (by simp);have N:=hv b (by simp);have m:=Dy.Ok.of y.li L;have n:=Dy.Ok.of z.li N;obtain⟨P,rfl⟩:∃P:Nat,p=P:=⟨p.toNat,by omega⟩
  have s:af P=true:=by simp[af];omega
  have Y:d5 [a] P=0:=by simp[d5,L,s]
  have Z:d5 [b] P=0:=by simp[d5,N,s]
  have J:=Cs a P up y;have K:=Cs b P up z;by_cases f:a.m=[]
  ·have F:a.sum b=b:=by rw[Dy.sum,Vh f]
   have c:aV a b P up=fj b P up:=by rw[aV,Vh g,F,fj,Vh Z]
   rw[c];refine ap rfl fun H=>?_
   simp;refine bt (args:=[.int .i64 P,.ref (H.length+3) 3 0 2]) (vs:=[.int .i64 P,gW [a,b]]) (H1:=H++[some ⟨3,[a.v],false,true⟩,some ⟨3,[b.v],false,true⟩,some ⟨3,[.agg [.bool false,.nil,.int .i64 0]],false,true⟩,some ⟨3,[a.v,b.v],true,false⟩]) rfl (by simp) (by refine WZ (b:=ah _ _) rfl ?_;simp[ah,aF,gk,gW]) fc ?_;simp[g,lim,f];refine zq K ?_;simp[lim]
  ·by_cases k:b.m=[]
   ·have F:a.sum b=a:=by rw[Dy.sum,Vk f,Vh k]
    have c:aV a b P up=fj a P up:=by rw[aV,Vh g,F,fj,Vh Y]
    rw[c];refine ap rfl fun H=>?_
    simp;refine bt (args:=[.int .i64 P,.ref (H.length+3) 3 0 2]) (vs:=[.int .i64 P,gW [a,b]]) (H1:=H++[some ⟨3,[a.v],false,true⟩,some ⟨3,[b.v],false,true⟩,some ⟨3,[.agg [.bool false,.nil,.int .i64 0]],false,true⟩,some ⟨3,[a.v,b.v],true,false⟩]) rfl (by simp) (by refine WZ (b:=ah _ _) rfl ?_;simp[ah,aF,gk,gW]) fc ?_;simp[g,lim,f,k];refine zq J ?_;simp[lim]
   ·have u:=lf a y;have w:=lf b z;rw[L]at u;rw[N]at w;have l:∀(a b:Dy),a.Ok->b.Ok->a.m≠[]->b.m≠[]->b.top<=a.top->∀(H G:ab) (E:aA) (t45 t47:Unit) (x0:V) (v:Dy × Int),v=aN (a.sum b).neg (aa (a.sum b).m) (a.sum b).e false P up ->
     E 2=.int .i64 P->E 3=.bool up->E 4=.ptr H.length 0 0->E 5=.ptr (H.length+1) 0 0->E 8=.ptr (H.length+2) 0 0->E 9=.int .i64 0 ->
     WC prog H.length (dB 4 c_round_add.body) E (H++some ⟨3,[a.v],false,true⟩ :: some ⟨3,[b.v],false,true⟩ :: some ⟨3,[.agg [.bool false,.nil,.int .i64 0]],false,true⟩ :: G) (fun x A i=>(x=.normal\/x=.ret)/\∃W,d8 A i [.cell 8 true 3,.tmp 9]=some W /\
      fin false H.length i W=some (.tup [v.1.v,.int .i64 v.2],H)):=by
     intro a b m n f k ht H G E _ _ _ v c Q h3 S h5 T h9;obtain⟨M,e,d,o,sc⟩:=LM a b P m n f k ht (by omega) (by omega);have D:=iT o.bits (by omega);refine pK ?_;have e1:=m.elo;have e2:=m.ehi;have e3:=n.elo;have e4:=n.ehi;have j:-50000<=iR a b P/\iR a b P<=16384:=by
      have t1:=r6 f;have:=(eF (gf m.tr f)).2.2;unfold iR;split<;>omega
     simp only[gV]at sc;simp[dB,Q,S,h5];refine zq sc ?_;by_cases hz:M=0/\e=false
     ·obtain⟨rfl,rfl⟩:=hz;have I:=o.zero rfl;have hv:v=(Dy.zero,0):=by
       rw[c,I];show aN false 0 0 false P up=_;rw[nj]
      rw[hv];simp[T,kr,lim,Dy.zero]
     ·have hM:M≠0:=by
       intro O;apply hz;refine⟨O,?_⟩;cases hl:e with
       |false=>rfl
       |true=>have:=o.more hl;rw[O,iG]at this;omega
      have C:ExOk (aB M) (iR a b P) e P:=by
       refine⟨D,aY _,by rw[aP];have:=o.bits;omega,j.1,by omega,by omega,by omega,?_,?_⟩
       ·rw[aP];exact o.more
       ·intro _;exact j.2
      have B:=Ct (a.neg != d) up C;rw[aP,o.eq up,<-c]at B;simp only[gV]at B;have r:aB M≠[]:=lE hM;have U:¬((aB M).length:Int)=0:=by intro h;exact r (VK (by omega))
      simp[Q,h3,S,lim,r];refine ak (vs:=[.bool (a.neg != d),.agg [lim (aB M),.int .i64 (iR a b P),.bool e],.int .i64 P,.bool up]) rfl rfl ?_ B ?_
      ·refine WZ (b:=ah _ _) rfl ?_;simp[ah,aF,lim];cases a.neg<;>cases d<;>rfl
      simp[T,lim]
    have t:=OD f k;refine jj rfl fun H=>?_
    refine ff (b:=dB 1 c_round_add.body) ?_;refine b9 ?_;simp;refine ff (b:=dB 2 c_round_add.body) ?_;refine b9 ?_;simp;refine bt (args:=[.int .i64 P,.ref (H.length+3) 3 0 2]) (vs:=[.int .i64 P,gW [a,b]]) (H1:=H++[some ⟨3,[a.v],false,true⟩,some ⟨3,[b.v],false,true⟩,some ⟨3,[.agg [.bool false,.nil,.int .i64 0]],false,true⟩,some ⟨3,[a.v,b.v],true,false⟩]) rfl (by simp) (by refine WZ (b:=ah _ _) rfl ?_;simp[ah,aF,gk,gW]) fc ?_;simp[g];refine ff (b:=dB 3 c_round_add.body) ?_;refine b9 ?_;simp[lim,f,k];refine ff (b:=dB 4 c_round_add.body) ?_;refine b9 ?_;simp;refine ak (args:=[a.v]) rfl (by simp[lim]) rfl u ?_;simp;refine ak (args:=[b.v]) rfl (by simp[lim]) rfl w ?_;by_cases q:a.top<b.top
    ·simp[q];refine fw (l b a n m k f (by omega) H [some ⟨3,[a.v,b.v],true,false⟩] _ () () .nil (aV a b P up) (by rw[aV,Vh g,t,W3]) (by simp) (by simp) (by simp) (by simp) (by simp) (by simp)) (fun x A i h=>by simpa[lim]using h)
    ·simp[q];refine fw (l a b m n f k (by omega) H [some ⟨3,[a.v,b.v],true,false⟩] _ () () .nil (aV a b P up) (by rw[aV,Vh g,W3]) (by simp) (by simp) (by simp) (by simp) (by simp) (by simp)) (fun x A i h=>by simpa[lim]using h)
 ·refine ap rfl fun H=>?_
  simp;refine bt (args:=[.int .i64 p,.ref (H.length+3) 3 0 2]) (vs:=[.int .i64 p,gW [a,b]]) (H1:=H++[some ⟨3,[a.v],false,true⟩,some ⟨3,[b.v],false,true⟩,some ⟨3,[.agg [.bool false,.nil,.int .i64 0]],false,true⟩,some ⟨3,[a.v,b.v],true,false⟩]) rfl (by simp) (by refine WZ (b:=ah _ _) rfl ?_;simp[ah,aF,gk,gW]) fc ?_;simp[g,aV,Dy.zero,lim]
theorem P3 (a b:Dy)(p:Int)(c:a.W)(d:b.W):CQ prog q1o [a.v,b.v,.int .i64 p] (.tup [(aV a b p false).1.v,.int .i64 (aV a b p false).2]):=by
 refine ap rfl fun H=>?_
 simp;refine ak rfl rfl rfl (ym a b p false c d) ?_;simp[lim]
theorem yC (a b:Dy)(p:Int)(c:a.W)(d:b.W):CQ prog q7z [a.v,b.v,.int .i64 p] (.tup [(aV a b p true).1.v,.int .i64 (aV a b p true).2]):=by
 refine ap rfl fun H=>?_
 simp;refine ak rfl rfl rfl (ym a b p true c d) ?_;simp[lim]
theorem ZN (a b:Dy)(p:Int)(c:a.W)(d:b.W):CQ prog Zm [a.v,b.v,.int .i64 p] (.tup [(aM a b p false).1.v,.int .i64 (aM a b p false).2]):=by
 refine ap rfl fun H=>?_
 simp;refine ak rfl rfl rfl (yc a b p false c d) ?_;simp[lim]
theorem yF (a b:Dy)(p:Int)(c:a.W)(d:b.W):CQ prog Y5 [a.v,b.v,.int .i64 p] (.tup [(aM a b p true).1.v,.int .i64 (aM a b p true).2]):=by
 refine ap rfl fun H=>?_
 simp;refine ak rfl rfl rfl (yc a b p true c d) ?_;simp[lim]
theorem P6 (a b:Dy)(p:Int)(c:a.W)(d:b.W):CQ prog Zl [a.v,b.v,.int .i64 p] (.tup [(aT a b p false).1.v,.int .i64 (aT a b p false).2]):=by
 refine ap rfl fun H=>?_
 simp;refine ak rfl rfl rfl (yb a b p false c d) ?_;simp[lim]
theorem MU (a b:Dy)(p:Int)(c:a.W)(d:b.W):CQ prog Y4 [a.v,b.v,.int .i64 p] (.tup [(aT a b p true).1.v,.int .i64 (aT a b p true).2]):=by
 refine ap rfl fun H=>?_
 simp;refine ak rfl rfl rfl (yb a b p true c d) ?_;simp[lim]
theorem Rm (d:Dy)(p:Int)(w:d.W):CQ prog qyy [d.v,.int .i64 p] (.tup [(bv d p false).1.v,.int .i64 (bv d p false).2]):=by
 refine ap rfl fun H=>?_
 simp;refine ak rfl rfl rfl (Ab d p false w) ?_;simp[lim]
theorem Ox (d:Dy)(p:Int)(w:d.W):CQ prog q35 [d.v,.int .i64 p] (.tup [(bv d p true).1.v,.int .i64 (bv d p true).2]):=by
 refine ap rfl fun H=>?_
 simp;refine ak rfl rfl rfl (Ab d p true w) ?_;simp[lim]
theorem wO (d:Dy)(p:Int)(w:d.W):CQ prog RY [d.v,.int .i64 p] (.tup [(fj d p false).1.v,.int .i64 (fj d p false).2]):=by
 refine ap rfl fun H=>?_
 simp;refine ak rfl rfl rfl (Cs d p false w) ?_;simp[lim]
theorem ql (d:Dy)(p:Int)(w:d.W):CQ prog Qs [d.v,.int .i64 p] (.tup [(fj d p true).1.v,.int .i64 (fj d p true).2]):=by
 refine ap rfl fun H=>?_
 simp;refine ak rfl rfl rfl (Cs d p true w) ?_;simp[lim]
