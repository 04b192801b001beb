import Derived.Test.YtblicjipogbhmaaGreatDoorFh
import Derived.Test.YtblicjipogbhmaaGreatDoorFg
import Derived.Test.YtblicjipogbhmaaGreatDoorFg
import Derived.Test.YtblicjipogbhmaaGreatDoorFe
namespace Go.Abs.W
set_option maxHeartbeats 4000000
theorem ME (p:Int):CQ prog q4r [.int .i64 p] (.bool (af p)):=by
 refine ap rfl fun H=>?_
 simp[af];grind
theorem UP (a b:Dy)(p:Int)(f:a.W)(g:b.W):CQ prog q2h [a.v,b.v,.int .i64 p] (.int .i64 (d5 [a,b] p)):=by
 refine ap rfl fun H=>?_
 simp;refine ak rfl rfl rfl (qP a f) ?_;cases c:a.valid
 ·simp[d5,c]
 ·simp;refine ak rfl rfl rfl (qP b g) ?_;cases d:b.valid
  ·simp[d5,c,d]
  ·simp;refine ak rfl rfl rfl (ME p) ?_;cases e:af p<;>simp[d5,c,d,e]
theorem uQ {q b:Nat}(h:ac q<=b):(aB q).length<=b/32+1:=
 ny (Vx (eM q) (Vg (by omega) h)) (by omega)
theorem RF (neg:Bool)(p:Nat)(l:p<=512):CQ prog qwh [.bool neg,.int .i64 p] (Dy.of neg (2^p-1) (16384-p)).v:=by
 refine ap rfl fun H=>?_
 have g:Li [1]:=by intro x k;simp at k;omega
 have e:aa [1]=1:=rfl;have a:1<=2^p:=aaB;have d:(aB (2^p)).length<=1000:=ny (B:=p+1) (WA (by omega) (by omega)) (by omega);have c:1<=(aB (2^p)).length:=List.length_pos_iff.2 (lE (by omega));have sc:=sD [1] p (by simp) g (by omega);rw[e,WH]at sc;have f:=Ke (aB (2^p)) [1] (by omega) (by simpa using c) (aY _) g (by rw[aP,e];exact a);rw[aP,e]at f;have j:(aB (2^p-1)).length<=1000:=i6 (Xq _ _) d;have i:IntKind.i64.wrap (16384-(p:Int))=16384-(p:Int):=by rw[wrap_i64]<;>omega
 have h:=ew neg (aB (2^p-1)) (16384-p) (by omega) (aY _) (by omega) (by omega);rw[aP]at h;simp;refine bt (args:=[.ref (H.length+1) 1 0 1,.int .i64 p]) (vs:=[lim [1],.int .i64 p]) (H1:=H++[some ⟨3,[.agg [.bool false,.nil,.int .i64 0]],false,true⟩,some ⟨1,[.int .u32 1],true,false⟩]) rfl (by simp) (by refine WZ (b:=ah _ _) rfl ?_;simp[ah,aF,gk,lim,u32]) sc ?_;simp;refine bt (args:=[lim (aB (2^p)),.ref (H.length+2) 1 0 1]) (vs:=[lim (aB (2^p)),lim [1]]) (H1:=H++[some ⟨3,[.agg [.bool false,.nil,.int .i64 0]],false,true⟩,some ⟨1,[.int .u32 1],true,false⟩,some ⟨1,[.int .u32 1],true,false⟩]) rfl (by simp) (by refine WZ (b:=ah _ _) rfl ?_;simp[ah,aF,gk,lim,u32]) f ?_;simp[i];refine zq h ?_;simp[lim]
def iK (neg out:Bool)(Q:Nat)(e:Int)(k p:Nat):Dy × Int:=
 if Q≠0/\(16384:Int)<ac Q+(e+k)then(if out then(Dy.zero,9)else(Dy.of neg (2^p-1) (16384-p),0))else(Dy.of neg Q (e+k),0)
theorem q5k {H:ab}{E:aA}(G:ab)(neg out:Bool)(Q:Nat)(e:Int)(k p:Nat)(D:p<=512)(t:ac Q<=600000)(F:k<=600000)(A:-400000<=e)(C:e<=400000)
 (o:E 0=.bool neg) (m:E 2=.int .i64 e) (z:E 4=.int .i64 p) (c:E 12=.ptr H.length 0 0) (_h13:E 13=.int .i64 0) (d:E 15=.int .i64 k) (f:E 16=lim (aB Q)) (h:E 17=.bool out) :
 WC prog H.length (dB 8 c_fpref03_Cut.body) E (H++some ⟨3,[.agg [.bool false,.nil,.int .i64 0]],false,true⟩ :: G) (fun x w s=>(x=.normal\/x=.ret)/\∃u,d8 w s [.cell 12 true 3,.tmp 13]=some u /\
  fin false H.length s u=some (.tup [(iK neg out Q e k p).1.v,.int .i64 (iK neg out Q e k p).2],H)):=by
 have I:=uQ t;have l:=tO (aB Q) (by omega) (aY Q);rw[aP]at l;have v:IntKind.i64.wrap (e+(k:Int))=e+k:=by rw[wrap_i64]<;>omega
 refine pK ?_;simp[dB,f];refine zq l ?_;by_cases b:Q=0
 ·subst b;have j:=ew neg (aB 0) (e+k) (by rw[kr];simp) (aY _) (by omega) (by omega);rw[aP]at j;simp[iG,o,m,d,f,v];refine zq j ?_;simp[c,iK,lim]
 ·have i:=(eF b).2.2;have⟨B,n⟩:∃B,B=ac Q:=⟨_,rfl⟩
  rw[<-n]at l t i ⊢;have q:IntKind.i64.wrap ((B:Int)+e)=B+e:=by rw[wrap_i64]<;>omega
  have r:IntKind.i64.wrap ((B:Int)+e+k)=B+e+k:=by rw[wrap_i64]<;>omega
  simp[i,f];refine zq l ?_;by_cases g:(16384:Int)<B+e+k
  ·have a:(16384:Int)<B+(e+k):=by omega
   cases out
   ·have y:=RF neg p D;simp[o,m,z,d,h,q,r,g];refine zq y ?_;simp[c,iK,b,<-n,a,lim]
   ·simp[m,c,d,h,q,r,g,iK,b,<-n,a,Dy.zero,lim]
  ·have a:¬(16384:Int)<B+(e+k):=by omega
   have j:=ew neg (aB Q) (e+k) (by omega) (aY _) (by omega) (by omega);rw[aP]at j;simp[o,m,d,f,q,r,v,g];refine zq j ?_;simp[c,iK,b,<-n,a,lim]
theorem OT {neg:Bool}{m:Nat}{e:Int}{more:Bool}{p:Nat}{up:Bool}:iK neg (neg != up) (be m e more p (neg != up)) e (a8 m e p) p=aN neg m e more p up:=rfl
theorem yG (neg:Bool)(m:List Nat)(e:Int)(more:Bool)(p:Nat)(up:Bool)(hm:m.length<=10000)(lm:Li m)(he1:-100000<=e)(he2:e<=100000)(U:p<=512) :
 CQ prog q8s [.bool neg,lim m,.int .i64 e,.bool more,.int .i64 p,.bool up] (.tup [(aN neg (aa m) e more p up).1.v,.int .i64 (aN neg (aa m) e more p up).2]):=by
 refine jj rfl fun H=>?_
 have j:=limbsOf_len.2 (bz lm);have T:=bz lm;rw[bB]at T;have z:=gD T;have⟨M,hM⟩:∃M,M=aa m:=⟨_,rfl⟩
 rw[<-hM]at j z ⊢;have Q:=tO (aB M) (by omega) (aY _);rw[aP]at Q;have w1:IntKind.i64.wrap ((ac M:Int)-p)=ac M-p:=by rw[wrap_i64]<;>omega
 have w2:IntKind.i64.wrap (-16384-e)=-16384-e:=by rw[wrap_i64]<;>omega
 have r:(if(if(ac M:Int)-p < -16384-e then -16384-e else(ac M:Int)-p)<0 then 0 else if(ac M:Int)-p < -16384-e then -16384-e else(ac M:Int)-p)=(a8 M e p:Int):=by
  unfold a8;split<;>split<;>omega
 have J:a8 M e p<=500000:=by unfold a8;omega
 have C:=OT (neg:=neg) (m:=M) (e:=e) (more:=more) (p:=p) (up:=up);rw[<-C];have hQb:ac (be M e more p (neg != up))<=600:=Vp UT (by omega);have n:∀o,be M e more p o=M/2^a8 M e p+(if(more ||decide (M%2^a8 M e p≠0))&&o then 1 else 0):=fun _=>rfl
 have⟨k,hk⟩:∃k,k=a8 M e p:=⟨_,rfl⟩
 rw[<-hk]at r J n ⊢;have sc:=Kd (aB M) k (by omega) (aY _) (by omega);rw[aP]at sc;have hql:(aB (M/2^k)).length<=20000:=Vp (i6 (VY _ _) j) (by omega);have c:∀(E:aA) (a:Bool),a=(more ||decide (M%2^k≠0))->E 0=.bool neg->E 2=.int .i64 e->E 3=.bool a->E 4=.int .i64 p->E 5=.bool up->E 12=.ptr H.length 0 0->E 13=.int .i64 0->E 15=.int .i64 k->E 16=lim (aB (M/2^k)) ->
  WC prog H.length (dB 6 c_fpref03_Cut.body) E (H++[some ⟨3,[.agg [.bool false,.nil,.int .i64 0]],false,true⟩]) (fun x t l=>(x=.normal\/x=.ret)/\∃Y,d8 t l [.cell 12 true 3,.tmp 13]=some Y /\
   fin false H.length l Y=some (.tup [(iK neg (neg != up) (be M e more p (neg != up)) e k p).1.v,.int .i64 (iK neg (neg != up) (be M e more p (neg != up)) e k p).2],H)):=by
  intro E a u v w F y Z d f g i;rw[<-u]at n;refine ff (b:=dB 7 c_fpref03_Cut.body) ?_;refine b9 ?_;simp[v,Z];refine ff (b:=dB 8 c_fpref03_Cut.body) ?_;refine b9 ?_;have s:(!(neg == up))=(neg != up):=by cases neg<;>cases up<;>rfl
  by_cases G:a=true/\(neg != up)=true
  ·obtain⟨rfl,N⟩:=G;have l1:Li [1]:=by intro x hx;simp at hx;omega
   have v1:aa [1]=1:=rfl;have P:=J2 (aB (M/2^k)) [1] (by omega) (by simp) (aY _) l1;have O:be M e more p (neg != up)=M/2^k+1:=by rw[n,N];simp
   rw[aP,v1,<-O]at P;have q:(neg == up)=false:=by cases neg<;>cases up<;>simp at N ⊢
   simp[F,q,i];refine bt (args:=[lim (aB (M/2^k)),.ref (H.length+1) 1 0 1]) (vs:=[lim (aB (M/2^k)),lim [1]]) (H1:=H++some ⟨3,[.agg [.bool false,.nil,.int .i64 0]],false,true⟩ :: [some ⟨1,[.int .u32 1],true,false⟩]) rfl ?_ ?_ P ?_
   ·simp
   ·refine WZ (b:=ah _ _) rfl ?_;simp[ah,aF,gk,lim,u32]
   simp;exact fw (q5k [some ⟨1,[.int .u32 1],true,false⟩] neg (neg != up) (be M e more p (neg != up)) e k p U (by omega) (by omega) (by omega) (by omega) (by simp[v]) (by simp[w]) (by simp[y]) (by simp[d]) (by simp[f]) (by simp[g]) (by simp) (by rw[N];simp)) (fun x t l h=>by simpa using h)
  ·have B:be M e more p (neg != up)=M/2^k:=by
    rw[n];cases a<;>cases h:(neg != up)<;>simp[h]at G ⊢
   have ct:=fun(E:aA) v w y d f g i D=>q5k (H:=H) (E:=E) [] neg (neg != up) (be M e more p (neg != up)) e k p U (by omega) (by omega) (by omega) (by omega) v w y d f g i D
   cases a
   ·simp[F];exact fw (ct _ (by simp[v]) (by simp[w]) (by simp[y]) (by simp[d]) (by simp[f]) (by simp[g]) (by simp[i,B]) (by simp[s])) (fun x t l h=>by simpa using h)
   ·have q:(neg == up)=true:=by cases neg<;>cases up<;>simp at G ⊢
    simp[F,q];exact fw (ct _ (by simp[v]) (by simp[w]) (by simp[y]) (by simp[d]) (by simp[f]) (by simp[g]) (by simp[i,B]) (by rw[<-s,q];simp)) (fun x t l h=>by simpa using h)
 refine ff (b:=dB 1 c_fpref03_Cut.body) ?_;refine b9 ?_;simp;refine ff (b:=dB 2 c_fpref03_Cut.body) ?_;refine b9 ?_;simp;refine ak rfl rfl rfl (ng m (by omega)) ?_;rw[eh lm,<-hM];simp;refine ff (b:=dB 3 c_fpref03_Cut.body) ?_;refine b9 ?_;simp;refine zq Q ?_;simp;refine ff (b:=dB 4 c_fpref03_Cut.body) ?_;refine b9 ?_;simp[w1,w2,r];refine ff (b:=dB 5 c_fpref03_Cut.body) ?_;refine b9 ?_;simp;refine zq sc ?_;simp;refine ff (b:=dB 6 c_fpref03_Cut.body) ?_;refine b9 ?_;by_cases I:k=0
 ·subst I;simp;exact fw (c _ more (by simp[XO]) (by simp) (by simp) (by simp) (by simp) (by simp) (by simp) (by simp) (by simp) (by simp)) (fun x t l h=>by simpa using h)
 ·have K:0<k:=by omega
  have L:M/2^k*2^k<=M:=WT _ _;have W:=sD (aB (M/2^k)) k (by omega) (aY _) (by omega);rw[aP]at W;have hl2:(aB (M/2^k*2^k)).length<=20000:=Vp (i6 L j) (by omega);have S:=J3 (aB (M/2^k*2^k)) (aB M) (aY _) (aY _) (by omega) (by omega);rw[aP,aP]at S;have A:aL (M/2^k*2^k) M=0↔M%2^k=0:=by
   rw[Ko];have:=WY M (2^k);omega
  simp[K];refine zq W ?_;simp;refine zq S ?_;by_cases hz:M%2^k=0
  ·simp[A,hz];exact fw (c _ more (by simp[hz]) (by simp) (by simp) (by simp) (by simp) (by simp) (by simp) (by simp) (by simp) (by simp)) (fun x t l h=>by simpa using h)
  ·simp[A,hz];exact fw (c _ true (by simp[hz]) (by simp) (by simp) (by simp) (by simp) (by simp) (by simp) (by simp) (by simp) (by simp)) (fun x t l h=>by simpa using h)
end Go.Abs.W
namespace Go.Abs.W
theorem yU (d:Dy)(p:Nat)(up:Bool)(c:d.m.length<=10000)(lm:Li d.m)(a:-100000<=d.e)(b:d.e<=100000)(e:p<=512) :
 CQ prog q2i [d.v,.int .i64 p,.bool up] (.tup [(aN d.neg (aa d.m) d.e false p up).1.v,.int .i64 (aN d.neg (aa d.m) d.e false p up).2]):=by
 refine ap rfl fun H=>?_
 simp;refine ak rfl rfl rfl (yG d.neg d.m d.e false p up c lm a b e) ?_;simp[lim]
theorem DC {neg:Bool}{N:Nat}{e:Int}{b:Nat}(k:ac N<=b)(d:-60000<=e)(f:e<=60000)(a:b<=40000) :
 (Dy.of neg N e).m.length<=10000/\Li (Dy.of neg N e).m/\-100000<=(Dy.of neg N e).e/\(Dy.of neg N e).e<=100000:=by
 by_cases h:N=0
 ·subst h;have:Dy.of neg 0 e=⟨false,[],0⟩:=by simp[Dy.of]
  rw[this];exact⟨by simp,by intro x g;simp at g,by simp,by simp⟩
 ·have c:Dy.of neg N e=⟨neg,aB (N/2^tz N),e+tz N⟩:=by simp[Dy.of,h]
  rw[c];have i:=wZ h;have j:=uQ (q:=N/2^tz N) (b:=b) (by omega);exact⟨by simp only;omega,aY _,by simp only;omega,by simp only;omega⟩
theorem Dy.Ok.size {d:Dy}(h:d.Ok):d.m.length<=10000/\Li d.m/\-100000<=d.e/\d.e<=100000:=by
 have a:=h.elo;have b:=h.ehi;have c:=h.len;exact⟨by omega,h.li,by omega,by omega⟩
theorem OE {a b:Dy}(c:a.Ok)(d:b.Ok):(a.sum b).m.length<=10000/\Li (a.sum b).m/\-100000<=(a.sum b).e/\(a.sum b).e<=100000:=by
 unfold Dy.sum;by_cases g:a.m=[]
 ·rw[Vh g];exact d.size
 ·by_cases j:b.m=[]
  ·rw[Vk g,Vh j];exact c.size
  ·rw[Vk g,Vk j];have n:=c.elo;have o:=c.ehi;have p:=d.elo;have q:=d.ehi;have l:=c.bits;have m:=d.bits;have⟨e,k⟩:∃e,e=min a.e b.e:=⟨_,rfl⟩
   simp only[<-k];have⟨B,t⟩:∃B,B=37000:=⟨_,rfl⟩
   have h:ac (a7 a e)<=B:=by
    refine gD ?_;unfold a7;refine Vx (V7 (eM _) (Vl _)) ?_;rw[<-Vs];exact Vg (by omega) (by omega)
   have i:ac (a7 b e)<=B:=by
    refine gD ?_;unfold a7;refine Vx (V7 (eM _) (Vl _)) ?_;rw[<-Vs];exact Vg (by omega) (by omega)
   have f:ac (a7 a e+a7 b e)<=B+1:=by
    refine gD ?_;have r:a7 a e<2^B:=Vx (eM _) (Vg (by omega) h);have s:a7 b e<2^B:=Vx (eM _) (Vg (by omega) i);rw[VH];omega
   split
   ·exact DC f (by omega) (by omega) (by omega)
   ·split
    ·exact DC (Vp (dW (Xq _ _)) h) (by omega) (by omega) (by omega)
    ·exact DC (Vp (dW (Xq _ _)) i) (by omega) (by omega) (by omega)
theorem B6 (a b:Dy)(p:Int)(up:Bool)(f:a.W)(g:b.W):CQ prog q8t [a.v,b.v,.int .i64 p,.bool up] (.tup [(aV a b p up).1.v,.int .i64 (aV a b p up).2]):=by
 refine ap rfl fun H=>?_
 have fc:=UP a b p f g;simp;refine zq fc ?_;by_cases c:d5 [a,b] p=0
 ·obtain⟨hv,i,h⟩:=kj c;have d:=Dy.Ok.of f.li (hv a (by simp));have e:=Dy.Ok.of g.li (hv b (by simp));obtain⟨P,rfl⟩:∃P:Nat,p=P:=⟨p.toNat,by omega⟩
  obtain⟨j,k,l,s4⟩:=OE d e;have m:=yU (a.sum b) P up j k l s4 (by omega);simp[c];refine ak rfl rfl rfl (vv a b d.toM e.toM) ?_;simp;refine zq m ?_;simp[aV,c,lim]
 ·simp[c,aV,Dy.zero,lim]
theorem yI (a b:Dy)(p:Int)(up:Bool)(h:a.W)(i:b.W):CQ prog q8q [a.v,b.v,.int .i64 p,.bool up] (.tup [(aM a b p up).1.v,.int .i64 (aM a b p up).2]):=by
 refine ap rfl fun H=>?_
 have fc:=UP a b p h i;simp;refine zq fc ?_;by_cases d:d5 [a,b] p=0
 ·obtain⟨hv,m,l⟩:=kj d;have f:=Dy.Ok.of h.li (hv a (by simp));have g:=Dy.Ok.of i.li (hv b (by simp));obtain⟨P,rfl⟩:∃P:Nat,p=P:=⟨p.toNat,by omega⟩
  have t:=f.elo;have u:=f.ehi;have v:=g.elo;have w:=g.ehi;have r:=f.bits;have s:=g.bits;have c:ac (aa a.m*aa b.m)<=9000:=by
   refine Vp (gD (b:=ac (aa a.m)+ac (aa b.m)) ?_) (by omega);rw[Vs];exact Ya (eM _) (eM _)
  obtain⟨n,o,q,s4⟩:=DC (neg:=a.neg != b.neg) (e:=a.e+b.e) c (by omega) (by omega) (by omega);have j:=yU (a.prod b) P up n o q s4 (by omega);have k:aN (a.prod b).neg (aa (a.prod b).m) (a.prod b).e false P up=aN (a.neg != b.neg) (aa a.m*aa b.m) (a.e+b.e) false P up:=Bo;rw[k]at j;simp[d];refine ak rfl rfl rfl (QG a b f.toM g.toM) ?_;simp;refine zq j ?_;simp[aM,d,lim]
 ·simp[d,aM,Dy.zero,lim]
set_option maxHeartbeats 1000000 in
theorem yH (a b:Dy)(p:Int)(up:Bool)(F:a.W)(G:b.W):CQ prog q8r [a.v,b.v,.int .i64 p,.bool up] (.tup [(aT a b p up).1.v,.int .i64 (aT a b p up).2]):=by
 refine ap rfl fun H=>?_
 have fc:=UP a b p F G;simp;refine zq fc ?_;by_cases l:d5 [a,b] p=0
 ·obtain⟨hv,S,Q⟩:=kj l;have Y:=hv a (by simp);have Z:=hv b (by simp);have g:=Dy.Ok.of F.li Y;have h:=Dy.Ok.of G.li Z;obtain⟨P,rfl⟩:∃P:Nat,p=P:=⟨p.toNat,by omega⟩
  by_cases s:b.m=[]
  ·simp[l,lim,s,aT,Dy.zero]
  ·by_cases u:a.m=[]
   ·simp[l,lim,u,s,aT,Dy.zero]
   ·have I:=g.bits;have J:=h.bits;have h1:=g.elo;have h2:=g.ehi;have h3:=h.elo;have h4:=h.ehi;have N:=g.len;have O:=h.len;have K:=gf g.tr u;have hB:=gf h.tr s;have o:=tO a.m (by omega) g.li;have q:=tO b.m (by omega) h.li;have B:ac (aa a.m)+bI a b P 2<=4620/\bI a b P 2<=4620:=by unfold bI;omega
    obtain⟨D,k3⟩:=B;have c:(if(ac (aa a.m):Int)<(P:Int)+2+ac (aa b.m)then(P:Int)+2+ac (aa b.m)-ac (aa a.m)else 0)=(bI a b P 2:Int):=by unfold bI;split<;>omega
    have d:aT a b P up=aN (a.neg != b.neg) (aa a.m*2^bI a b P 2/aa b.m) (a.e-b.e-bI a b P 2) (decide (aa a.m*2^bI a b P 2%aa b.m≠0)) P up:=by
     rw[aT,Vh l,Vk s,Vk u,W3]
    have⟨k,M⟩:∃k,k=bI a b P 2:=⟨_,rfl⟩
    rw[<-M]at D k3 c d;have f:ac (aa a.m*2^k)<=4620:=by
     have:=kg (m:=aa a.m) (j:=k) (r:=0) K (Vl k);rw[VF]at this;rw[this];exact D
    have⟨t,z⟩:∃t,t=ac (aa a.m):=⟨_,rfl⟩
    have⟨i,A⟩:∃i,i=ac (aa b.m):=⟨_,rfl⟩
    rw[<-z]at I o D c;rw[<-A]at J q c;have w1:IntKind.i64.wrap ((P:Int)+2)=(P:Int)+2:=by rw[wrap_i64]<;>omega
    have w2:IntKind.i64.wrap ((P:Int)+2+i)=(P:Int)+2+i:=by rw[wrap_i64]<;>omega
    have w3:IntKind.i64.wrap ((P:Int)+2+i-t)=(P:Int)+2+i-t:=by rw[wrap_i64]<;>omega
    have w4:IntKind.i64.wrap (a.e-b.e)=a.e-b.e:=by rw[wrap_i64]<;>omega
    have w5:IntKind.i64.wrap (a.e-b.e-k)=a.e-b.e-k:=by rw[wrap_i64]<;>omega
    have sc:=sD a.m k (by omega) g.li (by omega);have⟨W,L⟩:∃W,W=aa a.m*2^k:=⟨_,rfl⟩
    rw[<-L]at f sc d;have hl:=uQ f;have E:=P7 (aB W) b.m (by omega) (by omega) (aY _) h.li (by omega);rw[aP]at E;have C:ac (W/aa b.m)<=4620:=Vp (dW (VY _ _)) f;have T:=uQ C;have U:(aB (W%aa b.m)).length<=200:=Vp (i6 (abX _ _) (Vo _)) (by omega);have w:=tO (aB (W%aa b.m)) (by omega) (aY _);rw[aP]at w;have e:decide (W%aa b.m≠0)=decide (0<ac (W%aa b.m)):=by
     rw[aai];have:=bitL_eq0 (n:=W%aa b.m);omega
    have x:=yG (a.neg != b.neg) (aB (W/aa b.m)) (a.e-b.e-k) (decide (W%aa b.m≠0)) P up (by omega) (aY _) (by omega) (by omega) (by omega);rw[aP,<-d,e]at x;have⟨v,y⟩:∃v,v=ac (W%aa b.m):=⟨_,rfl⟩
    rw[<-y]at w x;simp[l,lim,u,s,w1];refine zq q ?_;simp[w2];refine zq o ?_;simp[w3,c];refine zq sc ?_;simp;refine zq E ?_;simp[w4,w5];refine zq w ?_;simp;refine ak (vs:=[.bool (a.neg != b.neg),lim (aB (W/aa b.m)),.int .i64 (a.e-b.e-k),.bool (decide (0<v)),.int .i64 P,.bool up]) rfl rfl ?_ x ?_
    ·refine WZ (b:=ah _ _) rfl ?_;simp[ah,aF];cases a.neg<;>cases b.neg<;>rfl
    simp[lim]
 ·simp[l,aT,Dy.zero,lim]
def Iv.made (r s:Dy × Int):Iv:=if r.2=0/\s.2=0 then⟨r.1,s.1,false⟩else Iv.whole
def Iv.add (x y:Iv)(p:Int):Iv:=if(x.known&&y.known&&af p)=true then Iv.made (aV x.lo y.lo p false) (aV x.hi y.hi p true)else Iv.whole
def Iv.neg (x:Iv):Iv:=if x.known=true then⟨x.hi.neg',x.lo.neg',false⟩else Iv.whole
def Iv.rnd (x:Iv)(p:Int):Iv:=if(x.known&&af p)=true then Iv.made (fj x.lo p false) (fj x.hi p true)else Iv.whole
def Iv.scl (x:Iv)(k:Int):Iv:=if x.known=true then Iv.made (x.lo.scl k,x.lo.sclE k) (x.hi.scl k,x.hi.sclE k)else Iv.whole
def Iv.sgn (x:Iv):Int:=if x.known=true then(if 0<x.lo.sgn then 1 else if x.hi.sgn<0 then -1 else 0)else 0
def Iv.sqrt (x:Iv)(p:Int):Iv:=if(x.known&&af p&&decide (0<x.lo.sgn))=true then Iv.made (bv x.lo p false) (bv x.hi p true)else Iv.whole
theorem Dy.zero_W : Dy.zero.W:=Dy.zero_ok.w
theorem Iv.whole_W : Iv.whole.W:=⟨Dy.zero_W,Dy.zero_W⟩
theorem rRound_ok {d:Dy}{p:Int}{up:Bool}:(fj d p up).1.Ok:=by
 unfold fj;split
 ·rename_i h;obtain⟨_,a,b⟩:=kj h;exact tH (by omega) (by omega)
 ·exact Dy.zero_ok
theorem rAdd_ok {a b:Dy}{p:Int}{up:Bool}:(aV a b p up).1.Ok:=by
 unfold aV;split
 ·rename_i h;obtain⟨_,c,d⟩:=kj h;exact tH (by omega) (by omega)
 ·exact Dy.zero_ok
theorem rMul_ok {a b:Dy}{p:Int}{up:Bool}:(aM a b p up).1.Ok:=by
 unfold aM;split
 ·rename_i h;obtain⟨_,c,d⟩:=kj h;exact tH (by omega) (by omega)
 ·exact Dy.zero_ok
theorem iS {a b:Dy}{p:Int}{up:Bool}:(aT a b p up).1.Ok:=by
 unfold aT;split
 ·rename_i h;obtain⟨_,c,d⟩:=kj h;split
  ·exact Dy.zero_ok
  ·split
   ·exact Dy.zero_ok
   ·exact tH (by omega) (by omega)
 ·exact Dy.zero_ok
theorem rSqrt_ok {d:Dy}{p:Int}{up:Bool}:(bv d p up).1.Ok:=by
 unfold bv;split
 ·rename_i h;obtain⟨_,a,b⟩:=kj h;split
  ·exact Dy.zero_ok
  ·split
   ·exact Dy.zero_ok
   ·exact tH (by omega) (by omega)
 ·exact Dy.zero_ok
theorem SH {neg:Bool}{n:Nat}{e:Int}:(Dy.of neg n e).chk.Ok:=by
 unfold Dy.chk;split
 ·rename_i h;exact Dy.of_ok h
 ·exact Dy.zero_ok
theorem scl_ok {d:Dy}{k:Int}:(d.scl k).Ok:=by
 unfold Dy.scl;split
 ·exact SH
 ·exact Dy.zero_ok
theorem tt {r s:Dy × Int}(a:r.1.W)(b:s.1.W):(Iv.made r s).W:=by
 unfold Iv.made;split
 ·exact⟨a,b⟩
 ·exact Iv.whole_W
theorem uP (r s:Dy × Int):CQ prog q1s [r.1.v,.int .i64 r.2,s.1.v,.int .i64 s.2] (Iv.made r s).v:=by
 refine ap rfl fun H=>?_
 by_cases a:r.2=0
 ·by_cases b:s.2=0
  ·simp[a,b,Iv.made,lim]
  ·simp[a,b];refine zq dA ?_;simp[Iv.made,b,lim]
 ·simp[a];refine zq dA ?_;simp[Iv.made,a,lim]
theorem yK (r s:Dy × Int):CQ prog q4n [r.1.v,.int .i64 r.2,s.1.v,.int .i64 s.2] (Iv.made r s).v:=by
 refine ap rfl fun H=>?_
 by_cases a:r.2=0
 ·by_cases b:s.2=0
  ·simp[a,b,Iv.made,lim]
  ·simp[a,b];refine zq gC ?_;simp[Iv.made,b,lim]
 ·simp[a];refine zq gC ?_;simp[Iv.made,a,lim]
theorem ra (p:Int):CQ prog qt7 [.int .i64 p] (.bool (af p)):=by
 refine ap rfl fun H=>?_
 simp[af];grind
theorem tU (p:Int):CQ prog q4q [.int .i64 p] (.bool (af p)):=by
 refine ap rfl fun H=>?_
 simp[af];grind
theorem B3 {d:Dy}(h:d.Ok):d.opp=d.neg':=by
 unfold Dy.opp Dy.neg';rw[h.valid];by_cases a:d.m=[]
 ·obtain⟨c,b⟩:=h.zero a;simp[a,b,Dy.zero]
 ·simp[a]
theorem gh {d:Dy}(h:d.Ok):d.neg'.Ok:=by
 refine⟨h.li,h.tr,h.len,?_,h.odd,h.bits,h.elo,h.ehi,h.top⟩;intro b;have a:d.m=[]:=b;exact⟨by simp[Dy.neg',a],(h.zero a).2⟩
theorem bZ {x:Iv}(w:x.W):x.neg.W:=by
 unfold Iv.neg;split
 ·rename_i h;obtain⟨a,b⟩:=bg w h;exact⟨(gh b).w,(gh a).w⟩
 ·exact Iv.whole_W
theorem aH {x y:Iv}{p:Int}:(x.add y p).W:=by
 unfold Iv.add;split
 ·exact tt rAdd_ok.w rAdd_ok.w
 ·exact Iv.whole_W
theorem Do (x y:Iv)(p:Int)(b:x.W)(c:y.W):CQ prog q4f [x.v,y.v,.int .i64 p] (x.add y p).v:=by
 refine ap rfl fun H=>?_
 simp;refine bt rfl rfl (H1:=H++[some ⟨7,[x.v],false,true⟩,some ⟨7,[y.v],false,true⟩,some ⟨7,[.agg [.bool false,.nil,.int .i64 0,.bool false,.nil,.int .i64 0,.bool false]],false,true⟩,some ⟨7,[x.v,y.v],true,false⟩]) (vs:=[aC [x,y]]) (by simp[prep,ah,aF];rfl) (kf [x,y] (by simp) (by simp;exact⟨b,c⟩)) ?_;cases a:x.known&&y.known
 ·have:([x,y].all Iv.known)=false:=by simpa using a
  simp only[this];simp;refine zq dA ?_;simp[Iv.add,a,lim]
 ·have:([x,y].all Iv.known)=true:=by simpa using a
  simp only[this];simp;refine ak rfl rfl rfl (ra p) ?_;cases d:af p
  ·simp;refine zq dA ?_;simp[Iv.add,d,lim]
  ·simp;refine ak rfl rfl rfl (P3 x.lo y.lo p b.lo c.lo) ?_;simp;refine ak rfl rfl rfl (yC x.hi y.hi p b.hi c.hi) ?_;simp;refine ak rfl rfl rfl (uP (aV x.lo y.lo p false) (aV x.hi y.hi p true)) ?_;simp[Iv.add,a,d,lim]
theorem jS (x y:Iv)(p:Int)(a:x.W)(b:y.W):CQ prog YR [x.v,y.v,.int .i64 p] (x.add y p).v:=by
 refine ap rfl fun H=>?_
 simp;refine ak rfl rfl rfl (tU p) ?_;cases c:af p
 ·simp;refine zq gC ?_;simp[Iv.add,c,lim]
 ·simp;refine ak rfl rfl rfl (kH x a) ?_;cases d:x.known
  ·simp;refine zq gC ?_;simp[Iv.add,d,lim]
  ·simp;refine ak rfl rfl rfl (kH y b) ?_;cases e:y.known
   ·simp;refine zq gC ?_;simp[Iv.add,e,lim]
   ·simp;refine ak rfl rfl rfl (B6 x.lo y.lo p false a.lo b.lo) ?_;simp;refine ak rfl rfl rfl (B6 x.hi y.hi p true a.hi b.hi) ?_;simp;refine ak rfl rfl rfl (yK (aV x.lo y.lo p false) (aV x.hi y.hi p true)) ?_;simp[Iv.add,d,e,c,lim]
theorem wQ (x:Iv)(b:x.W):CQ prog q4a [x.v] x.neg.v:=by
 refine ap rfl fun H=>?_
 simp;refine bt rfl rfl (H1:=H++[some ⟨7,[x.v],false,true⟩,some ⟨7,[.agg [.bool false,.nil,.int .i64 0,.bool false,.nil,.int .i64 0,.bool false]],false,true⟩,some ⟨7,[x.v],true,false⟩]) (vs:=[aC [x]]) (by simp[prep,ah,aF];rfl) (kf [x] (by simp) (by simpa using b)) ?_;cases a:x.known
 ·simp[a];refine zq dA ?_;simp[Iv.neg,a,lim]
 ·obtain⟨e,f⟩:=bg b a;have c:=Bq x.lo b.lo;have d:=Bq x.hi b.hi;rw[B3 e]at c;rw[B3 f]at d;simp[a];refine zq d ?_;simp;refine zq c ?_;simp[Iv.neg,a,lim]
theorem tP (x:Iv)(b:x.W):CQ prog q8l [x.v] x.neg.v:=by
 refine ap rfl fun H=>?_
 simp;refine ak rfl rfl rfl (kH x b) ?_;cases a:x.known
 ·simp;refine zq gC ?_;simp[Iv.neg,a,lim]
 ·simp;refine ak rfl rfl rfl (mA x.hi) ?_;simp;refine ak rfl rfl rfl (mA x.lo) ?_;simp[Iv.neg,a,lim]
theorem wR (x y:Iv)(p:Int)(b:x.W)(a:y.W):CQ prog q39 [x.v,y.v,.int .i64 p] (x.add y.neg p).v:=by
 refine ap rfl fun H=>?_
 simp;refine ak rfl rfl rfl (wQ y a) ?_;simp;refine ak rfl rfl rfl (Do x y.neg p b (bZ a)) ?_;simp[lim]
theorem Ui (x y:Iv)(p:Int)(b:x.W)(a:y.W):CQ prog YV [x.v,y.v,.int .i64 p] (x.add y.neg p).v:=by
 refine ap rfl fun H=>?_
 simp;refine ak rfl rfl rfl (tP y a) ?_;simp;refine ak rfl rfl rfl (jS x y.neg p b (bZ a)) ?_;simp[lim]
theorem uR (x:Iv)(p:Int)(b:x.W):CQ prog qy7 [x.v,.int .i64 p] (x.rnd p).v:=by
 refine ap rfl fun H=>?_
 simp;refine bt rfl rfl (H1:=H++[some ⟨7,[x.v],false,true⟩,some ⟨7,[.agg [.bool false,.nil,.int .i64 0,.bool false,.nil,.int .i64 0,.bool false]],false,true⟩,some ⟨7,[x.v],true,false⟩]) (vs:=[aC [x]]) (by simp[prep,ah,aF];rfl) (kf [x] (by simp) (by simpa using b)) ?_;cases a:x.known
 ·simp[a];refine zq dA ?_;simp[Iv.rnd,a,lim]
 ·simp[a];refine ak rfl rfl rfl (ra p) ?_;cases c:af p
  ·simp;refine zq dA ?_;simp[Iv.rnd,c,lim]
  ·simp;refine ak rfl rfl rfl (wO x.lo p b.lo) ?_;simp;refine ak rfl rfl rfl (ql x.hi p b.hi) ?_;simp;refine ak rfl rfl rfl (uP (fj x.lo p false) (fj x.hi p true)) ?_;simp[Iv.rnd,a,c,lim]
theorem tR (x:Iv)(k:Int)(b:x.W):CQ prog qy6 [x.v,.int .i64 k] (x.scl k).v:=by
 refine ap rfl fun H=>?_
 simp;refine bt rfl rfl (H1:=H++[some ⟨7,[x.v],false,true⟩,some ⟨7,[.agg [.bool false,.nil,.int .i64 0,.bool false,.nil,.int .i64 0,.bool false]],false,true⟩,some ⟨7,[x.v],true,false⟩]) (vs:=[aC [x]]) (by simp[prep,ah,aF];rfl) (kf [x] (by simp) (by simpa using b)) ?_;cases a:x.known
 ·simp[a];refine zq dA ?_;simp[Iv.scl,a,lim]
 ·simp[a];refine ak rfl rfl rfl (AB x.lo k b.lo) ?_;simp;refine ak rfl rfl rfl (AB x.hi k b.hi) ?_;simp;refine ak rfl rfl rfl (uP (x.lo.scl k,x.lo.sclE k) (x.hi.scl k,x.hi.sclE k)) ?_;simp[Iv.scl,a,lim]
theorem DX (x:Iv)(k:Int)(d:x.W):CQ prog Zg [x.v,.int .i64 k] (x.scl k).v:=by
 refine ap rfl fun H=>?_
 simp;refine ak rfl rfl rfl (kH x d) ?_;cases c:x.known
 ·simp;refine zq gC ?_;simp[Iv.scl,c,lim]
 ·by_cases e:-32768<=k/\k<=32768
  ·have a:¬k < -32768:=by omega
   have b:¬32768<k:=by omega
   simp[a,b];refine ak rfl rfl rfl (UO x.lo k d.lo) ?_;simp;refine ak rfl rfl rfl (UO x.hi k d.hi) ?_;simp;refine ak rfl rfl rfl (yK (x.lo.scl k,x.lo.sclE k) (x.hi.scl k,x.hi.sclE k)) ?_;simp[Iv.scl,c,lim]
  ·have f:x.scl k=Iv.whole:=by
    have:¬(x.lo.valid=true/\-32768<=k/\k<=32768):=fun h=>e h.2
    simp[Iv.scl,c,Iv.made,Dy.sclE,this]
   rw[f];by_cases a:k < -32768
   ·simp[a];refine zq gC ?_;simp[lim]
   ·have b:32768<k:=by omega
    simp[a,b];refine zq gC ?_;simp[lim]
theorem yD (x:Iv)(c:x.W):CQ prog q1w [x.v] (.int .i64 x.sgn):=by
 refine ap rfl fun H=>?_
 simp;refine bt rfl rfl (H1:=H++[some ⟨7,[x.v],false,true⟩,some ⟨7,[x.v],true,false⟩]) (vs:=[aC [x]]) (by simp[prep,ah,aF];rfl) (kf [x] (by simp) (by simpa using c)) ?_;cases a:x.known
 ·simp[a,Iv.sgn]
 ·obtain⟨g,h⟩:=bg c a;have e:=mX x.lo c.lo;have f:=mX x.hi c.hi;rw[g.valid]at e;rw[h.valid]at f;simp[a];refine zq e ?_;by_cases b:0<x.lo.sgn
  ·simp[Iv.sgn,a,b]
  ·simp[b];refine zq f ?_;by_cases d:x.hi.sgn<0
   ·simp[Iv.sgn,a,b,d]
   ·simp[Iv.sgn,a,b,d]
theorem UN (x:Iv)(d:x.W):CQ prog q4p [x.v] (.int .i64 x.sgn):=by
 refine ap rfl fun H=>?_
 simp;refine ak rfl rfl rfl (kH x d) ?_;cases a:x.known
 ·simp[a,Iv.sgn]
 ·simp;refine ak rfl rfl rfl (uH x.lo) ?_;by_cases b:0<x.lo.sgn
  ·simp[Iv.sgn,a,b]
  ·simp[b];refine ak rfl rfl rfl (uH x.hi) ?_;by_cases c:x.hi.sgn<0
   ·simp[Iv.sgn,a,b,c]
   ·simp[Iv.sgn,a,b,c]
theorem Mu (x:Iv)(p:Int)(c:x.W):CQ prog q1v [x.v,.int .i64 p] (x.sqrt p).v:=by
 refine ap rfl fun H=>?_
 simp;refine bt rfl rfl (H1:=H++[some ⟨7,[x.v],false,true⟩,some ⟨7,[.agg [.bool false,.nil,.int .i64 0,.bool false,.nil,.int .i64 0,.bool false]],false,true⟩,some ⟨7,[x.v],true,false⟩]) (vs:=[aC [x]]) (by simp[prep,ah,aF];rfl) (kf [x] (by simp) (by simpa using c)) ?_;cases b:x.known
 ·simp[b];refine zq dA ?_;simp[Iv.sqrt,b,lim]
 ·obtain⟨g,h⟩:=bg c b;have f:=mX x.lo c.lo;rw[g.valid]at f;simp[b];refine ak rfl rfl rfl (ra p) ?_;cases d:af p
  ·simp;refine zq dA ?_;simp[Iv.sqrt,d,lim]
  ·simp;refine zq f ?_;by_cases e:0<x.lo.sgn
   ·have a:¬x.lo.sgn<=0:=by omega
    simp[a];refine ak rfl rfl rfl (Rm x.lo p c.lo) ?_;simp;refine ak rfl rfl rfl (Ox x.hi p c.hi) ?_;simp;refine ak rfl rfl rfl (uP (bv x.lo p false) (bv x.hi p true)) ?_;simp[Iv.sqrt,b,d,e,lim]
   ·have a:x.lo.sgn<=0:=by omega
    simp[a];refine zq dA ?_;simp[Iv.sqrt,e,lim]
theorem gB {a b:Dy}(c:a.Ok)(d:b.Ok):a.cmp b=cG a.val b.val:=by simp[Dy.cmp,c.valid,d.valid]
theorem jw {x y:Int}:cG x y<=0↔x<=y:=by unfold cG;split<;>(try split)<;>omega
theorem Bn {x y:Int}:0<=cG x y↔y<=x:=by unfold cG;split<;>(try split)<;>omega
theorem Kn {x y:Int}:cG x y<0↔x<y:=by unfold cG;split<;>(try split)<;>omega
theorem sr {x y:Int}:0<cG x y↔y<x:=by unfold cG;split<;>(try split)<;>omega
theorem mH {a b:Dy}(c:a.Ok)(d:b.Ok):(a.lo2 b).val=min a.val b.val:=by
 unfold Dy.lo2;rw[gB c d];split
 ·rename_i h;rw[jw]at h;omega
 ·rename_i h;rw[jw]at h;omega
theorem kD {a b:Dy}(c:a.Ok)(d:b.Ok):(a.hi2 b).val=max a.val b.val:=by
 unfold Dy.hi2;rw[gB c d];split
 ·rename_i h;rw[Bn]at h;omega
 ·rename_i h;rw[Bn]at h;omega
theorem ie {d:Dy}:d.neg'.val=- d.val:=by
 by_cases b:d.m=[]
 ·have c:d.absN=0:=Dy.absN_nil b;have a:d.neg'.absN=0:=Dy.absN_nil b;simp[Dy.val,c,a]
 ·have a:d.neg'.absN=d.absN:=rfl;have e:d.neg'.neg=!d.neg:=by simp[Dy.neg',b]
  unfold Dy.val;rw[a,e];cases d.neg<;>simp
theorem mK {d:Dy}(h:d.Ok):(0<d.sgn↔0<d.val)/\(d.sgn<0↔d.val<0):=by
 by_cases a:d.m=[]
 ·have b:d.absN=0:=Dy.absN_nil a;simp[Dy.sgn,Dy.val,a,b]
 ·have b:=h.absN_ne a;unfold Dy.sgn Dy.val;rw[Vk a];cases d.neg<;>simp<;>omega
theorem fG {d:Dy}(h:d.Ok):d.abs.Ok:=by
 unfold Dy.abs;split
 ·rename_i a;exact⟨h.li,h.tr,h.len,fun b=>absurd b a.2,h.odd,h.bits,h.elo,h.ehi,h.top⟩
 ·exact Dy.zero_ok
theorem ni : Dy.zero.val=0:=by
 unfold Dy.val;rw[Dy.absN_nil rfl];rfl
theorem mY {d:Dy}(h:d.Ok):d.abs.val=d.val.natAbs:=by
 unfold Dy.abs;rw[h.valid];by_cases a:d.m=[]
 ·have b:d.absN=0:=Dy.absN_nil a;simp[a,ni];simp[Dy.val,b]
 ·have c:(⟨false,d.m,d.e⟩:Dy).absN=d.absN:=rfl;simp only[abW,ne_eq,a,abG,Wm];unfold Dy.val;rw[c];cases d.neg<;>simp
theorem bP {x:Iv}(w:x.W)(h:x.known=true):x.lo.val<=x.hi.val:=by
 obtain⟨a,b⟩:=bg w h;simp[Iv.known]at h;have hv:=h.2;rw[Iv.valid,Vk (by simp[h.1])]at hv;simp[gB a b,jw]at hv;exact hv.2
def Iv.mag (x:Iv):Dy:=x.lo.abs.hi2 x.hi.abs
def Iv.mig (x:Iv):Dy:=if x.sgn=0 then Dy.zero else x.lo.abs.lo2 x.hi.abs
def Iv.abs (x:Iv):Iv:=if x.known=true then⟨x.mig,x.mag,false⟩else Iv.whole
theorem K2 {x:Iv}(w:x.W)(h:x.known=true):x.lo.neg'.hi2 x.hi=x.mag:=by
 obtain⟨a,b⟩:=bg w h;have c:=bP w h;refine qF (tl (gh a) b) (tl (fG a) (fG b)) ?_;rw[Iv.mag,kD (gh a) b,kD (fG a) (fG b),ie,mY a,mY b];omega
theorem PK {x:Iv}(w:x.W)(h:x.known=true)(a:x.sgn≠0):0<x.lo.val\/x.hi.val<0:=by
 obtain⟨d,e⟩:=bg w h;unfold Iv.sgn at a;rw[Vh h]at a;by_cases c:0<x.lo.sgn
 ·exact .inl ((mK d).1.1 c)
 ·rw[Vk c]at a;by_cases b:x.hi.sgn<0
  ·exact .inr ((mK e).2.1 b)
  ·rw[Vk b]at a;exact absurd rfl a
theorem K6 {x:Iv}(w:x.W)(h:x.known=true)(c:x.sgn≠0):x.lo.hi2 x.hi.neg'=x.mig:=by
 obtain⟨a,b⟩:=bg w h;have d:=bP w h;have e:=PK w h c;rw[Iv.mig,Vk c];refine qF (tl a (gh b)) (lR (fG a) (fG b)) ?_;rw[kD a (gh b),mH (fG a) (fG b),ie,mY a,mY b];omega
theorem jM {x:Iv}(w:x.W)(h:x.known=true):x.mag.Ok:=tl (fG (bg w h).1) (fG (bg w h).2)
theorem rC {x:Iv}(w:x.W)(h:x.known=true):x.mig.Ok:=by
 unfold Iv.mig;split
 ·exact Dy.zero_ok
 ·exact lR (fG (bg w h).1) (fG (bg w h).2)
theorem fC {x:Iv}(w:x.W):x.abs.W:=by
 unfold Iv.abs;split
 ·rename_i h;exact⟨(rC w h).w,(jM w h).w⟩
 ·exact Iv.whole_W
theorem sf (x:Iv)(a:x.W):CQ prog q4d [x.v] (.tup [(if x.known=true then x.mag else Dy.zero).v,.bool x.known]):=by
 refine ap rfl fun H=>?_
 simp;refine bt rfl rfl (H1:=H++[some ⟨7,[x.v],false,true⟩,some ⟨3,[.agg [.bool false,.nil,.int .i64 0]],false,true⟩,some ⟨7,[x.v],true,false⟩]) (vs:=[aC [x]]) (by simp[prep,ah,aF];rfl) (kf [x] (by simp) (by simpa using a)) ?_;cases b:x.known
 ·simp[b,Dy.zero,lim]
 ·obtain⟨c,d⟩:=bg a b;simp[b];refine ak rfl rfl rfl (Bp x.lo a.lo) ?_;simp;refine ak rfl rfl rfl (Bp x.hi a.hi) ?_;simp;refine ak rfl rfl rfl (Ux x.lo.abs x.hi.abs (fG c).w (fG d).w) ?_;simp[Iv.mag,lim]
theorem J6 (x:Iv)(a:x.W):CQ prog q4c [x.v] (.tup [(if x.known=true then x.mig else Dy.zero).v,.bool x.known]):=by
 refine ap rfl fun H=>?_
 simp;refine bt rfl rfl (H1:=H++[some ⟨7,[x.v],false,true⟩,some ⟨3,[.agg [.bool false,.nil,.int .i64 0]],false,true⟩,some ⟨7,[x.v],true,false⟩]) (vs:=[aC [x]]) (by simp[prep,ah,aF];rfl) (kf [x] (by simp) (by simpa using a)) ?_;cases b:x.known
 ·simp[b,Dy.zero,lim]
 ·obtain⟨d,e⟩:=bg a b;simp[b];refine ak rfl rfl rfl (yD x a) ?_;by_cases c:x.sgn=0
  ·simp[c,Iv.mig,Dy.zero,lim]
  ·simp[c];refine ak rfl rfl rfl (Bp x.lo a.lo) ?_;simp;refine ak rfl rfl rfl (Bp x.hi a.hi) ?_;simp;refine ak rfl rfl rfl (Uw x.lo.abs x.hi.abs (fG d).w (fG e).w) ?_;simp[Iv.mig,c,lim]
theorem sk (x:Iv)(b:x.W)(a:x.known=true):CQ prog YT [x.v] x.mag.v:=by
 obtain⟨c,d⟩:=bg b a;refine ap rfl fun H=>?_
 simp;refine ak rfl rfl rfl (mA x.lo) ?_;simp;refine ak rfl rfl rfl (qC x.lo.neg' x.hi (gh c) d) ?_;rw[K2 b a];simp[lim]
theorem J8 (x:Iv)(b:x.W)(c:x.known=true):CQ prog q8m [x.v] x.mig.v:=by
 obtain⟨d,e⟩:=bg b c;refine ap rfl fun H=>?_
 simp;refine ak rfl rfl rfl (UN x b) ?_;by_cases a:x.sgn=0
 ·simp[a,Iv.mig,Dy.zero,lim]
 ·simp[a];refine ak rfl rfl rfl (mA x.hi) ?_;simp;refine ak rfl rfl rfl (qC x.lo x.hi.neg' d (gh e)) ?_;rw[K6 b c a];simp[lim]
theorem J5 (x:Iv)(d:x.W):CQ prog q4g [x.v] x.abs.v:=by
 refine ap rfl fun H=>?_
 have b:=J6 x d;have c:=sf x d;simp;refine bt rfl rfl (H1:=H++[some ⟨7,[x.v],false,true⟩,some ⟨7,[.agg [.bool false,.nil,.int .i64 0,.bool false,.nil,.int .i64 0,.bool false]],false,true⟩,some ⟨7,[x.v],true,false⟩]) (vs:=[aC [x]]) (by simp[prep,ah,aF];rfl) (kf [x] (by simp) (by simpa using d)) ?_;cases a:x.known
 ·simp[a];refine zq dA ?_;simp[Iv.abs,a,lim]
 ·rw[a]at b c;simp at b c;simp[a];refine zq b ?_;simp;refine zq c ?_;simp[Iv.abs,a,lim]
theorem Mz (x:Iv)(b:x.W):CQ prog q8p [x.v] x.abs.v:=by
 refine ap rfl fun H=>?_
 simp;refine ak rfl rfl rfl (kH x b) ?_;cases a:x.known
 ·simp;refine zq gC ?_;simp[Iv.abs,a,lim]
 ·simp;refine ak rfl rfl rfl (J8 x b a) ?_;simp;refine ak rfl rfl rfl (sk x b a) ?_;simp[Iv.abs,a,lim]
def aO (x y:Iv):List (Dy × Dy):=[(x.lo,y.lo),(x.lo,y.hi),(x.hi,y.lo),(x.hi,y.hi)]
def cS (f:Dy->Dy->Dy × Int):List (Dy × Dy)->Nat->Dy
 |_,0=>Dy.zero
 |l,i+1=>if i=0 then(f ((l.getD i (Dy.zero,Dy.zero)).1) ((l.getD i (Dy.zero,Dy.zero)).2)).1 else(cS f l i).lo2 (f ((l.getD i (Dy.zero,Dy.zero)).1) ((l.getD i (Dy.zero,Dy.zero)).2)).1
def cT (f:Dy->Dy->Dy × Int):List (Dy × Dy)->Nat->Dy
 |_,0=>Dy.zero
 |l,i+1=>if i=0 then(f ((l.getD i (Dy.zero,Dy.zero)).1) ((l.getD i (Dy.zero,Dy.zero)).2)).1 else(cT f l i).hi2 (f ((l.getD i (Dy.zero,Dy.zero)).1) ((l.getD i (Dy.zero,Dy.zero)).2)).1
def Iv.four (f g:Dy->Dy->Dy × Int)(x y:Iv):Iv:=
 if(aO x y).all (fun q=>decide ((f q.1 q.2).2=0)&&decide ((g q.1 q.2).2=0))=true then⟨cS f (aO x y) 4,cT g (aO x y) 4,false⟩else Iv.whole
theorem zm {a b:Dy}(c:a.Ok)(d:b.Ok):(b.cmp a<0↔¬a.cmp b<=0)/\(0<b.cmp a↔¬0<=a.cmp b):=by
 rw[gB c d,gB d c,Kn,sr,jw,Bn];omega
def b7 : V:=.agg [.bool false,.nil,.int .i64 0,.bool false,.nil,.int .i64 0,.bool false]
theorem Qr {n0:Nat}{Q:AX->aA->ab->Prop}(H G:ab)(E:aA)(x y:Iv)(p:Int)(gd D:Nat)(f g:Dy->Dy->Dy × Int)
 (hd:∀H args,prep prog gd H args=ah H args) (hu:∀H args,prep prog D H args=ah H args)
 (cd:∀a b:Dy,a.W->b.W->CQ prog gd [a.v,b.v,.int .i64 p] (.tup [(f a b).1.v,.int .i64 (f a b).2])) (Z:∀a b:Dy,a.W->b.W->CQ prog D [a.v,b.v,.int .i64 p] (.tup [(g a b).1.v,.int .i64 (g a b).2]))
 (F:∀a b,(f a b).1.Ok) (t:∀a b,(g a b).1.Ok) (i:Nat) (hi:i<4) (a b:Dy) (T:a.W) (U:b.W) (cs:List V) (A:Blk)
 (O:6<=cs.length-i*6) (S:List.take 6 (List.drop (i*6) cs)=[.bool a.neg,lim a.m,.int .i64 a.e,.bool b.neg,lim b.m,.int .i64 b.e])
 (lo hi2:Dy) (I:lo.Ok) (s:hi2.Ok) (w:V) (hw:(i=0/\w=b7)\/(i≠0/\w=Iv.v ⟨lo,hi2,false⟩))
 (r:E 2=.int .i64 p) (v:E 3=.fn gd []) (z:E 4=.fn D []) (e:E 10=.ptr (H.length+2) 0 0) (d:E 12=.ptr (H.length+4) 0 0) (k:E 40=.agg cs) (l:E 41=.int .i64 i)
 (j:((f a b).2≠0\/(g a b).2≠0)->∀m L,m 10=.ptr (H.length+2) 0 0->Q .ret m (H++some ⟨7,[x.v],false,true⟩ :: some ⟨7,[y.v],false,true⟩ :: some ⟨7,[Iv.whole.v],false,true⟩ :: some A :: some ⟨7,[w],false,true⟩ :: L))
 (c:(f a b).2=0->(g a b).2=0->∀m L,m 2=.int .i64 p->m 3=.fn gd []->m 4=.fn D []->m 10=.ptr (H.length+2) 0 0->m 12=.ptr (H.length+4) 0 0->m 40=.agg cs->m 41=.int .i64 ((i+1:Nat):Int) ->
  Q .normal m (H++some ⟨7,[x.v],false,true⟩ :: some ⟨7,[y.v],false,true⟩ :: some ⟨7,[b7],false,true⟩ :: some A :: some ⟨7,[Iv.v ⟨if i=0 then(f a b).1 else lo.lo2 (f a b).1,if i=0 then(g a b).1 else hi2.hi2 (g a b).1,false⟩],false,true⟩ :: L)) (P:n0=H.length) :
 WK prog n0 C9 [] E (H++some ⟨7,[x.v],false,true⟩ :: some ⟨7,[y.v],false,true⟩ :: some ⟨7,[b7],false,true⟩ :: some A :: some ⟨7,[w],false,true⟩ :: G) Q:=by
 subst P;have C:IntKind.i64.wrap ((i:Int)+1)=((i+1:Nat):Int):=by rw[wrap_i64]<;>omega
 have W:=cd a b T U;have Y:=Z a b T U;have N:(i:Int)<4:=by omega
 simp[C9,r,v,k,l,hi,N,O,S];refine ak (g:=gd) (caps:=[]) (args:=[a.v,b.v,.int .i64 p]) (vs:=[a.v,b.v,.int .i64 p]) rfl rfl (by rw[hd];rfl) W ?_;simp[z,r];refine ak (g:=D) (caps:=[]) (args:=[a.v,b.v,.int .i64 p]) (vs:=[a.v,b.v,.int .i64 p]) rfl rfl (by rw[hu];rfl) Y ?_;by_cases n:(f a b).2=0
 ·by_cases o:(g a b).2=0
  ·rcases hw with ⟨rfl,rfl⟩|⟨K,rfl⟩
   ·simp[n,o,b7,l,d];simp[b7]at c;exact c n o _ _ (by simp[r]) (by simp[v]) (by simp[z]) (by simp[e]) (by simp[d]) (by simp[k]) (by simpa using C)
   ·have h0':¬(i:Int)=0:=by omega
    simp[n,o,K,d,b7];simp[b7,K]at c;obtain⟨M,f2⟩:=zm I (F a b);obtain⟨f3,f4⟩:=zm s (t a b);refine ak rfl rfl rfl (lj _ _ (F a b).w I.w) ?_;by_cases J:(f a b).1.cmp lo<0
    ·simp[J,K,d];refine ak rfl rfl rfl (lj _ _ (t a b).w s.w) ?_;by_cases q:0<(g a b).1.cmp hi2
     ·simp[q,d,l];have B:=M.1 J;have u:=f4.1 q;simp[Dy.lo2,Dy.hi2,B,u]at c;exact c n o _ _ (by simp[r]) (by simp[v]) (by simp[z]) (by simp[e]) (by simp[d]) (by simp[k]) (by simp[C])
     ·simp[q,l];have B:=M.1 J;have u:0<=hi2.cmp (g a b).1:=Ye fun h=>q (f4.2 h)
      simp[Dy.lo2,Dy.hi2,B,u]at c;exact c n o _ _ (by simp[r]) (by simp[v]) (by simp[z]) (by simp[e]) (by simp[d]) (by simp[k]) (by simp[C])
    ·simp[J,K,d];have B:lo.cmp (f a b).1<=0:=Ye fun h=>J (M.2 h)
     refine ak rfl rfl rfl (lj _ _ (t a b).w s.w) ?_;by_cases q:0<(g a b).1.cmp hi2
     ·simp[q,d,l];have u:=f4.1 q;simp[Dy.lo2,Dy.hi2,B,u]at c;exact c n o _ _ (by simp[r]) (by simp[v]) (by simp[z]) (by simp[e]) (by simp[d]) (by simp[k]) (by simp[C])
     ·simp[q,l];have u:0<=hi2.cmp (g a b).1:=Ye fun h=>q (f4.2 h)
      simp[Dy.lo2,Dy.hi2,B,u]at c;exact c n o _ _ (by simp[r]) (by simp[v]) (by simp[z]) (by simp[e]) (by simp[d]) (by simp[k]) (by simp[C])
  ·simp[n,o];refine zq dA ?_;simp[e];simp at j;exact j (.inr o) _ _ (by simp[e])
 ·simp[n];refine zq dA ?_;simp[e];simp at j;exact j (.inl n) _ _ (by simp[e])
def au (x y:Iv)(i:Nat):Dy × Dy:=(aO x y).getD i (Dy.zero,Dy.zero)
def te (x y:Iv):List V:=[.bool x.lo.neg,lim x.lo.m,.int .i64 x.lo.e,.bool y.lo.neg,lim y.lo.m,.int .i64 y.lo.e,.bool x.lo.neg,lim x.lo.m,.int .i64 x.lo.e,.bool y.hi.neg,lim y.hi.m,.int .i64 y.hi.e,
 .bool x.hi.neg,lim x.hi.m,.int .i64 x.hi.e,.bool y.lo.neg,lim y.lo.m,.int .i64 y.lo.e,.bool x.hi.neg,lim x.hi.m,.int .i64 x.hi.e,.bool y.hi.neg,lim y.hi.m,.int .i64 y.hi.e]
theorem OP {x y:Iv}{i:Nat}(hi:i<4):6<=(te x y).length-i*6/\List.take 6 (List.drop (i*6) (te x y))=[.bool (au x y i).1.neg,lim (au x y i).1.m,.int .i64 (au x y i).1.e,.bool (au x y i).2.neg,lim (au x y i).2.m,.int .i64 (au x y i).2.e]:=by
 obtain rfl|rfl|rfl|rfl:i=0\/i=1\/i=2\/i=3:=by omega
 all_goals simp[te,au,aO]
theorem UD {x y:Iv}(a:x.W)(b:y.W){i:Nat}(hi:i<4):(au x y i).1.W/\(au x y i).2.W:=by
 obtain rfl|rfl|rfl|rfl:i=0\/i=1\/i=2\/i=3:=by omega
 all_goals simp[au,aO,a.lo,a.hi,b.lo,b.hi]
theorem kL {f:Dy->Dy->Dy × Int}{x y:Iv}{i:Nat}:cS f (aO x y) (i+1)=if i=0 then(f (au x y i).1 (au x y i).2).1 else(cS f (aO x y) i).lo2 (f (au x y i).1 (au x y i).2).1:=rfl
theorem kK {f:Dy->Dy->Dy × Int}{x y:Iv}{i:Nat}:cT f (aO x y) (i+1)=if i=0 then(f (au x y i).1 (au x y i).2).1 else(cT f (aO x y) i).hi2 (f (au x y i).1 (au x y i).2).1:=rfl
theorem iD {f:Dy->Dy->Dy × Int}(c:∀a b,(f a b).1.Ok){x y:Iv}:∀i,(cS f (aO x y) i).Ok
 |0=>Dy.zero_ok
 |i+1=>by
  rw[kL];split
  ·exact c _ _
  ·exact lR (iD c i) (c _ _)
theorem iC {f:Dy->Dy->Dy × Int}(c:∀a b,(f a b).1.Ok){x y:Iv}:∀i,(cT f (aO x y) i).Ok
 |0=>Dy.zero_ok
 |i+1=>by
  rw[kK];split
  ·exact c _ _
  ·exact tl (iC c i) (c _ _)
def c9 (f g:Dy->Dy->Dy × Int)(x y:Iv)(i:Nat):Prop:=∀j,j<i->(f (au x y j).1 (au x y j).2).2=0/\(g (au x y j).1 (au x y j).2).2=0
theorem kI {f g:Dy->Dy->Dy × Int}{x y:Iv}(h:c9 f g x y 4):Iv.four f g x y=⟨cS f (aO x y) 4,cT g (aO x y) 4,false⟩:=by
 have a:=h 0 (by omega);have b:=h 1 (by omega);have c:=h 2 (by omega);have d:=h 3 (by omega);simp[au,aO]at a b c d;unfold Iv.four;rw[Vh];simp[aO,a,b,c,d]
theorem Cd {f g:Dy->Dy->Dy × Int}{x y:Iv}{i:Nat}(hi:i<4)(h:(f (au x y i).1 (au x y i).2).2≠0\/(g (au x y i).1 (au x y i).2).2≠0):Iv.four f g x y=Iv.whole:=by
 unfold Iv.four;rw[Vk];intro e;simp[aO]at e;obtain rfl|rfl|rfl|rfl:i=0\/i=1\/i=2\/i=3:=by omega
 all_goals simp[au,aO]at h
 all_goals obtain⟨a,b,c,d⟩:=e
 all_goals rcases h with h|h
 all_goals simp_all
theorem xP (x y:Iv)(p:Int)(gd e:Nat)(f g:Dy->Dy->Dy × Int)(wx:x.W)(wy:y.W)
 (Q:∀H args,prep prog gd H args=ah H args) (W:∀H args,prep prog e H args=ah H args)
 (cd:∀a b:Dy,a.W->b.W->CQ prog gd [a.v,b.v,.int .i64 p] (.tup [(f a b).1.v,.int .i64 (f a b).2])) (I:∀a b:Dy,a.W->b.W->CQ prog e [a.v,b.v,.int .i64 p] (.tup [(g a b).1.v,.int .i64 (g a b).2]))
 (o:∀a b,(f a b).1.Ok) (q:∀a b,(g a b).1.Ok):CQ prog q1u [x.v,y.v,.int .i64 p,.fn gd [],.fn e []] (Iv.four f g x y).v:=by
 refine ap rfl fun H=>?_
 simp;refine e9 (fun k E z=>∃i w G,k=4-i/\i<=4/\((i=0/\w=b7)\/(i≠0/\w=Iv.v ⟨cS f (aO x y) i,cT g (aO x y) i,false⟩))/\c9 f g x y i /\
  E 2=.int .i64 p/\E 3=.fn gd []/\E 4=.fn e []/\E 10=.ptr (H.length+2) 0 0/\E 12=.ptr (H.length+4) 0 0/\E 40=.agg (te x y)/\E 41=.int .i64 i /\
  z=H++some ⟨7,[x.v],false,true⟩ :: some ⟨7,[y.v],false,true⟩ :: some ⟨7,[b7],false,true⟩ :: some ⟨24,[.agg (te x y)],false,true⟩ :: some ⟨7,[w],false,true⟩ :: G) 4 ?_ ?_
 ·refine⟨0,b7,[],rfl,by omega,.inl ⟨rfl,rfl⟩,fun j S=>by omega,?_,?_,?_,?_,?_,?_,?_,?_⟩<;>simp[te,b7]
 ·rintro k E z ⟨i,w,G,hk,hi,B,A,M,N,O,l,m,u,n,rfl⟩;refine b9 ?_;by_cases c:i<4
  ·obtain⟨T,U⟩:=OP (x:=x) (y:=y) c;obtain⟨Y,Z⟩:=UD wx wy c;refine Qr H G E x y p gd e f g Q W cd I o q i c _ _ Y Z (te x y) _ T U _ _ (iD o i) (iC q i) w B M N O l m u n ?_ ?_ rfl
   ·intro P C v d;simp[d,Cd c P,Iv.whole,lim]
   ·intro D F C v J K L d r s t;refine⟨4-(i+1),by omega,i+1,_,v,rfl,by omega,.inr ⟨by omega,?_⟩,?_,J,K,L,d,r,s,t,rfl⟩
    ·rw[kL,kK]
    ·intro j S;by_cases h:j<i
     ·exact A j h
     ·have:j=i:=by omega
      subst this;exact⟨D,F⟩
  ·have:i=4:=by omega
   subst this;rcases B with ⟨h,_⟩|⟨_,rfl⟩
   ·omega
   ·simp[C9,n,l,m,kI A,lim,b7]
def Iv.mul (x y:Iv)(p:Int):Iv:=if(x.known&&y.known&&af p)=true then Iv.four (fun a b=>aM a b p false) (fun a b=>aM a b p true) x y else Iv.whole
def Iv.div (x y:Iv)(p:Int):Iv:=if(x.known&&y.known&&af p&&decide (y.sgn≠0))=true then Iv.four (fun a b=>aT a b p false) (fun a b=>aT a b p true) x y else Iv.whole
theorem wl {f g:Dy->Dy->Dy × Int}(c:∀a b,(f a b).1.Ok)(d:∀a b,(g a b).1.Ok){x y:Iv}:(Iv.four f g x y).W:=by
 unfold Iv.four;split
 ·exact⟨(iD c 4).w,(iC d 4).w⟩
 ·exact Iv.whole_W
theorem aD {x y:Iv}{p:Int}:(x.mul y p).W:=by
 unfold Iv.mul;split
 ·exact wl (fun _ _=>rMul_ok) (fun _ _=>rMul_ok)
 ·exact Iv.whole_W
theorem aI {x y:Iv}{p:Int}:(x.div y p).W:=by
 unfold Iv.div;split
 ·exact wl (fun _ _=>iS) (fun _ _=>iS)
 ·exact Iv.whole_W
theorem zg {a:Dy}:a.lo2 a=a:=by unfold Dy.lo2;split<;>rfl
theorem Ce {a:Dy}:a.hi2 a=a:=by unfold Dy.hi2;split<;>rfl
def ek (q:Dy × Dy):V:=.agg [.bool q.1.neg,lim q.1.m,.int .i64 q.1.e,.bool q.2.neg,lim q.2.m,.int .i64 q.2.e]
def jY (x y:Iv):List V:=[ek (x.lo,y.lo),ek (x.lo,y.hi),ek (x.hi,y.lo),ek (x.hi,y.hi)]
theorem vN {x y:Iv}{i:Nat}(hi:i<4):(jY x y)[i]?=some (ek (au x y i)):=by
 obtain rfl|rfl|rfl|rfl:i=0\/i=1\/i=2\/i=3:=by omega
 all_goals rfl
theorem tE {x y:Iv}:(jY x y).length=4:=rfl
theorem xn (x y:Iv):CQ prog q4o [x.v,y.v] (.sl (jY x y)):=by
 refine ap rfl fun H=>?_
 simp[jY,ek,fin]
theorem qw (x y:Iv)(p:Int)(g:x.W)(h:y.W):CQ prog q4b [x.v,y.v,.int .i64 p] (x.mul y p).v:=by
 refine ap rfl fun H=>?_
 simp;refine bt rfl rfl (H1:=H++[some ⟨7,[x.v],false,true⟩,some ⟨7,[y.v],false,true⟩,some ⟨7,[.agg [.bool false,.nil,.int .i64 0,.bool false,.nil,.int .i64 0,.bool false]],false,true⟩,some ⟨7,[x.v,y.v],true,false⟩]) (vs:=[aC [x,y]]) (by simp[prep,ah,aF];rfl) (kf [x,y] (by simp) (by simp;exact⟨g,h⟩)) ?_;cases c:x.known&&y.known
 ·have:([x,y].all Iv.known)=false:=by simpa using c
  simp only[this];simp;refine zq dA ?_;simp[Iv.mul,c,lim]
 ·have:([x,y].all Iv.known)=true:=by simpa using c
  simp only[this];simp;refine ak rfl rfl rfl (ra p) ?_;cases f:af p
  ·simp;refine zq dA ?_;simp[Iv.mul,f,lim]
  ·simp;refine ak rfl rfl rfl (xP x y p Zm Y5 (fun a b=>aM a b p false) (fun a b=>aM a b p true) g h (fun _ _=>rfl) (fun _ _=>rfl) (fun a b d e=>ZN a b p d e) (fun a b d e=>yF a b p d e) (fun _ _=>rMul_ok) (fun _ _=>rMul_ok)) ?_;simp[Iv.mul,c,f,lim]
theorem qv (x y:Iv)(p:Int)(i:x.W)(g:y.W):CQ prog q4e [x.v,y.v,.int .i64 p] (x.div y p).v:=by
 refine ap rfl fun H=>?_
 simp;refine bt rfl rfl (H1:=H++[some ⟨7,[x.v],false,true⟩,some ⟨7,[y.v],false,true⟩,some ⟨7,[.agg [.bool false,.nil,.int .i64 0,.bool false,.nil,.int .i64 0,.bool false]],false,true⟩,some ⟨7,[x.v,y.v],true,false⟩]) (vs:=[aC [x,y]]) (by simp[prep,ah,aF];rfl) (kf [x,y] (by simp) (by simp;exact⟨i,g⟩)) ?_;cases c:x.known&&y.known
 ·have:([x,y].all Iv.known)=false:=by simpa using c
  simp only[this];simp;refine zq dA ?_;simp[Iv.div,c,lim]
 ·have:([x,y].all Iv.known)=true:=by simpa using c
  simp only[this];simp;refine ak rfl rfl rfl (ra p) ?_;cases h:af p
  ·simp;refine zq dA ?_;simp[Iv.div,h,lim]
  ·simp;refine ak rfl rfl rfl (yD y g) ?_;by_cases d:y.sgn=0
   ·simp[d];refine zq dA ?_;simp[Iv.div,d,lim]
   ·simp[d];refine ak rfl rfl rfl (xP x y p Zl Y4 (fun a b=>aT a b p false) (fun a b=>aT a b p true) i g (fun _ _=>rfl) (fun _ _=>rfl) (fun a b e f=>P6 a b p e f) (fun a b e f=>MU a b p e f) (fun _ _=>iS) (fun _ _=>iS)) ?_;simp[Iv.div,c,h,d,lim]
theorem QV {Q:AX->aA->ab->Prop}(H G:ab)(E:aA)(x y:Iv)(p:Int)(i:Nat)(hi:i<4)(D:(au x y i).1.W)(F:(au x y i).2.W)
 (lo hi2:Dy) (A:lo.Ok) (z:hi2.Ok) (w:V) (L:(i=0/\w=b7)\/(i≠0/\w=Iv.v ⟨lo,hi2,false⟩))
 (o:E 2=.int .i64 p) (m:E 6=.ptr (H.length+2) 0 0) (t:E 7=.sl (jY x y)) (f:E 8=.ptr (H.length+3) 0 0) (n:E 9=.int .i64 i)
 (d:((aM (au x y i).1 (au x y i).2 p false).2≠0\/(aM (au x y i).1 (au x y i).2 p true).2≠0)->∀e u,e 6=.ptr (H.length+2) 0 0->Q .ret e (H++some ⟨7,[x.v],false,true⟩ :: some ⟨7,[y.v],false,true⟩ :: some ⟨7,[Iv.whole.v],false,true⟩ :: some ⟨7,[w],false,true⟩ :: u))
 (c:(aM (au x y i).1 (au x y i).2 p false).2=0->(aM (au x y i).1 (au x y i).2 p true).2=0->∀e u,e 2=.int .i64 p->e 6=.ptr (H.length+2) 0 0->e 7=.sl (jY x y)->e 8=.ptr (H.length+3) 0 0->e 9=.int .i64 ((i+1:Nat):Int) ->
  Q .normal e (H++some ⟨7,[x.v],false,true⟩ :: some ⟨7,[y.v],false,true⟩ :: some ⟨7,[b7],false,true⟩ :: some ⟨7,[Iv.v ⟨if i=0 then(aM (au x y i).1 (au x y i).2 p false).1 else lo.lo2 (aM (au x y i).1 (au x y i).2 p false).1,if i=0 then(aM (au x y i).1 (au x y i).2 p true).1 else hi2.hi2 (aM (au x y i).1 (au x y i).2 p true).1,false⟩],false,true⟩ :: u)) :
 WK prog H.length vc [] E (H++some ⟨7,[x.v],false,true⟩ :: some ⟨7,[y.v],false,true⟩ :: some ⟨7,[b7],false,true⟩ :: some ⟨7,[w],false,true⟩ :: G) Q:=by
 have B:IntKind.i64.wrap ((i:Int)+1)=((i+1:Nat):Int):=by rw[wrap_i64]<;>omega
 have v:(i:Int)<4:=by omega
 have j:(jY x y)[i]'(by rw[tE];exact hi)=ek (au x y i):=by have:=vN (x:=x) (y:=y) hi;rw[k9 (by rw[tE];exact hi)]at this;exact Option.some.inj this
 have g:=tE (x:=x) (y:=y);have I:=yI (au x y i).1 (au x y i).2 p false D F;have J:=yI (au x y i).1 (au x y i).2 p true D F;have k:=rMul_ok (a:=(au x y i).1) (b:=(au x y i).2) (p:=p) (up:=false);have ok2:=rMul_ok (a:=(au x y i).1) (b:=(au x y i).2) (p:=p) (up:=true);generalize M:au x y i=q at *
 obtain⟨a,b⟩:=q;simp only at *
 generalize N:aM a b p false=r at *
 generalize O:aM a b p true=s at *
 simp[ek]at j;simp[vc,o,t,n,hi,v,j,g];refine zq I ?_;simp[t,n,o,hi,j,g];refine zq J ?_;by_cases h:r.2=0
 ·by_cases l:s.2=0
  ·rcases L with ⟨rfl,rfl⟩|⟨C,rfl⟩
   ·simp[h,l,b7,n,f];refine ak rfl rfl rfl (Cg r.1 r.1 k k) ?_;simp[f];refine ak rfl rfl rfl (qC s.1 s.1 ok2 ok2) ?_;simp[b7]at c;simp[f,n,zg,Ce];exact c h l _ _ (by simp[o]) (by simp[m]) (by simp[t]) (by simp[f]) (by simpa using B)
   ·have K:¬(i:Int)=0:=by omega
    simp[b7,C]at c;simp[h,l,C,n,f,b7];refine ak rfl rfl rfl (Cg lo r.1 A k) ?_;simp[f];refine ak rfl rfl rfl (qC hi2 s.1 z ok2) ?_;simp[f,n];exact c h l _ _ (by simp[o]) (by simp[m]) (by simp[t]) (by simp[f]) (by simp[B])
  ·simp[h,l];refine zq gC ?_;simp[m];simp at d;exact d (.inr l) _ _ (by simp[m])
 ·simp[h];refine zq gC ?_;simp[m];simp at d;exact d (.inl h) _ _ (by simp[m])
theorem PF (H:ab)(x y:Iv)(p:Int)(N:x.W)(O:y.W)(E:aA){K:List Fr}{Q:AX->aA->ab->Prop}
 (s:E 2=.int .i64 p) (n:E 6=.ptr (H.length+2) 0 0) (t:E 7=.sl (jY x y)) (o:E 8=.ptr (H.length+3) 0 0) (q:E 9=.int .i64 0)
 (m:∀d w e,d 6=.ptr (H.length+2) 0 0->Iv.four (fun a b=>aM a b p false) (fun a b=>aM a b p true) x y=Iv.whole->WP prog H.length Q K .ret d (H++some ⟨7,[x.v],false,true⟩ :: some ⟨7,[y.v],false,true⟩ :: some ⟨7,[Iv.whole.v],false,true⟩ :: some ⟨7,[w],false,true⟩ :: e))
 (c:∀d e,d 6=.ptr (H.length+2) 0 0->d 8=.ptr (H.length+3) 0 0->WP prog H.length Q K (.exit 0) d (H++some ⟨7,[x.v],false,true⟩ :: some ⟨7,[y.v],false,true⟩ :: some ⟨7,[b7],false,true⟩ :: some ⟨7,[(Iv.four (fun a b=>aM a b p false) (fun a b=>aM a b p true) x y).v],false,true⟩ :: e)) :
 WK prog H.length (.loop vc) K E (H++some ⟨7,[x.v],false,true⟩ :: some ⟨7,[y.v],false,true⟩ :: some ⟨7,[b7],false,true⟩ :: some ⟨7,[b7],false,true⟩ :: []) Q:=by
 refine e9 (fun k E u=>∃i w G,k=4-i/\i<=4/\((i=0/\w=b7)\/(i≠0/\w=Iv.v ⟨cS (fun a b=>aM a b p false) (aO x y) i,cT (fun a b=>aM a b p true) (aO x y) i,false⟩))/\c9 (fun a b=>aM a b p false) (fun a b=>aM a b p true) x y i /\
  E 2=.int .i64 p/\E 6=.ptr (H.length+2) 0 0/\E 7=.sl (jY x y)/\E 8=.ptr (H.length+3) 0 0/\E 9=.int .i64 i /\
  u=H++some ⟨7,[x.v],false,true⟩ :: some ⟨7,[y.v],false,true⟩ :: some ⟨7,[b7],false,true⟩ :: some ⟨7,[w],false,true⟩ :: G) 4 ?_ ?_
 ·exact⟨0,b7,[],rfl,by omega,.inl ⟨rfl,rfl⟩,fun j J=>by omega,s,n,t,o,q,rfl⟩
 ·rintro k E u ⟨i,w,G,P,hi,z,v,s,n,t,o,q,rfl⟩;refine b9 ?_;by_cases l:i<4
  ·obtain⟨L,M⟩:=UD N O l;refine QV H G E x y p i l L M _ _ (iD (f:=(fun a b=>aM a b p false)) (fun _ _=>rMul_ok) i) (iC (f:=(fun a b=>aM a b p true)) (fun _ _=>rMul_ok) i) w z s n t o q ?_ ?_
   ·intro I d e r;exact m d w e r (Cd (f:=(fun a b=>aM a b p false)) (g:=(fun a b=>aM a b p true)) l I)
   ·intro A B d e C r D e8 F;refine⟨4-(i+1),by omega,i+1,_,e,rfl,by omega,.inr ⟨by omega,?_⟩,?_,C,r,D,e8,F,rfl⟩
    ·rw[kL,kK]
    ·intro j J;by_cases h:j<i
     ·exact v j h
     ·have:j=i:=by omega
      subst this;exact⟨A,B⟩
  ·have:i=4:=by omega
   subst this;rcases z with ⟨h,_⟩|⟨_,rfl⟩
   ·omega
   ·simp[vc,q];rw[kI v]at c;exact c _ G (by simp[n]) (by simp[o])
theorem nf (x y:Iv)(p:Int)(e:x.W)(f:y.W):CQ prog YU [x.v,y.v,.int .i64 p] (x.mul y p).v:=by
 refine ap rfl fun H=>?_
 simp;refine ak rfl rfl rfl (tU p) ?_;cases b:af p
 ·simp;refine zq gC ?_;simp[Iv.mul,b,lim]
 ·simp;refine ak rfl rfl rfl (kH x e) ?_;cases c:x.known
  ·simp;refine zq gC ?_;simp[Iv.mul,c,lim]
  ·simp;refine ak rfl rfl rfl (kH y f) ?_;cases d:y.known
   ·simp;refine zq gC ?_;simp[Iv.mul,d,lim]
   ·simp;refine ak rfl rfl rfl (xn x y) ?_;simp;refine fw (PF H x y p e f _ (by simp) (by simp) (by simp) (by simp) (by simp) ?_ ?_) (fun _ _ _ h=>h)
    ·intro g w i a h;simp[a,Iv.mul,c,d,b,h,lim]
    ·intro g i a e8;simp[a,e8,Iv.mul,c,d,b,lim,b7]
theorem QB {Q:AX->aA->ab->Prop}(H G:ab)(E:aA)(x y:Iv)(p:Int)(i:Nat)(hi:i<4)(D:(au x y i).1.W)(F:(au x y i).2.W)
 (lo hi2:Dy) (A:lo.Ok) (z:hi2.Ok) (w:V) (L:(i=0/\w=b7)\/(i≠0/\w=Iv.v ⟨lo,hi2,false⟩))
 (o:E 2=.int .i64 p) (m:E 6=.ptr (H.length+2) 0 0) (t:E 7=.sl (jY x y)) (f:E 8=.ptr (H.length+3) 0 0) (n:E 9=.int .i64 i)
 (d:((aT (au x y i).1 (au x y i).2 p false).2≠0\/(aT (au x y i).1 (au x y i).2 p true).2≠0)->∀e u,e 6=.ptr (H.length+2) 0 0->Q .ret e (H++some ⟨7,[x.v],false,true⟩ :: some ⟨7,[y.v],false,true⟩ :: some ⟨7,[Iv.whole.v],false,true⟩ :: some ⟨7,[w],false,true⟩ :: u))
 (c:(aT (au x y i).1 (au x y i).2 p false).2=0->(aT (au x y i).1 (au x y i).2 p true).2=0->∀e u,e 2=.int .i64 p->e 6=.ptr (H.length+2) 0 0->e 7=.sl (jY x y)->e 8=.ptr (H.length+3) 0 0->e 9=.int .i64 ((i+1:Nat):Int) ->
  Q .normal e (H++some ⟨7,[x.v],false,true⟩ :: some ⟨7,[y.v],false,true⟩ :: some ⟨7,[b7],false,true⟩ :: some ⟨7,[Iv.v ⟨if i=0 then(aT (au x y i).1 (au x y i).2 p false).1 else lo.lo2 (aT (au x y i).1 (au x y i).2 p false).1,if i=0 then(aT (au x y i).1 (au x y i).2 p true).1 else hi2.hi2 (aT (au x y i).1 (au x y i).2 p true).1,false⟩],false,true⟩ :: u)) :
 WK prog H.length vb [] E (H++some ⟨7,[x.v],false,true⟩ :: some ⟨7,[y.v],false,true⟩ :: some ⟨7,[b7],false,true⟩ :: some ⟨7,[w],false,true⟩ :: G) Q:=by
 have B:IntKind.i64.wrap ((i:Int)+1)=((i+1:Nat):Int):=by rw[wrap_i64]<;>omega
 have v:(i:Int)<4:=by omega
 have j:(jY x y)[i]'(by rw[tE];exact hi)=ek (au x y i):=by have:=vN (x:=x) (y:=y) hi;rw[k9 (by rw[tE];exact hi)]at this;exact Option.some.inj this
 have g:=tE (x:=x) (y:=y);have I:=yH (au x y i).1 (au x y i).2 p false D F;have J:=yH (au x y i).1 (au x y i).2 p true D F;have k:=iS (a:=(au x y i).1) (b:=(au x y i).2) (p:=p) (up:=false);have ok2:=iS (a:=(au x y i).1) (b:=(au x y i).2) (p:=p) (up:=true);generalize M:au x y i=q at *
 obtain⟨a,b⟩:=q;simp only at *
 generalize N:aT a b p false=r at *
 generalize O:aT a b p true=s at *
 simp[ek]at j;simp[vb,o,t,n,hi,v,j,g];refine zq I ?_;simp[t,n,o,hi,j,g];refine zq J ?_;by_cases h:r.2=0
 ·by_cases l:s.2=0
  ·rcases L with ⟨rfl,rfl⟩|⟨C,rfl⟩
   ·simp[h,l,b7,n,f];refine ak rfl rfl rfl (Cg r.1 r.1 k k) ?_;simp[f];refine ak rfl rfl rfl (qC s.1 s.1 ok2 ok2) ?_;simp[b7]at c;simp[f,n,zg,Ce];exact c h l _ _ (by simp[o]) (by simp[m]) (by simp[t]) (by simp[f]) (by simpa using B)
   ·have K:¬(i:Int)=0:=by omega
    simp[b7,C]at c;simp[h,l,C,n,f,b7];refine ak rfl rfl rfl (Cg lo r.1 A k) ?_;simp[f];refine ak rfl rfl rfl (qC hi2 s.1 z ok2) ?_;simp[f,n];exact c h l _ _ (by simp[o]) (by simp[m]) (by simp[t]) (by simp[f]) (by simp[B])
  ·simp[h,l];refine zq gC ?_;simp[m];simp at d;exact d (.inr l) _ _ (by simp[m])
 ·simp[h];refine zq gC ?_;simp[m];simp at d;exact d (.inl h) _ _ (by simp[m])
theorem PE (H:ab)(x y:Iv)(p:Int)(N:x.W)(O:y.W)(E:aA){K:List Fr}{Q:AX->aA->ab->Prop}
 (s:E 2=.int .i64 p) (n:E 6=.ptr (H.length+2) 0 0) (t:E 7=.sl (jY x y)) (o:E 8=.ptr (H.length+3) 0 0) (q:E 9=.int .i64 0)
 (m:∀d w e,d 6=.ptr (H.length+2) 0 0->Iv.four (fun a b=>aT a b p false) (fun a b=>aT a b p true) x y=Iv.whole->WP prog H.length Q K .ret d (H++some ⟨7,[x.v],false,true⟩ :: some ⟨7,[y.v],false,true⟩ :: some ⟨7,[Iv.whole.v],false,true⟩ :: some ⟨7,[w],false,true⟩ :: e))
 (c:∀d e,d 6=.ptr (H.length+2) 0 0->d 8=.ptr (H.length+3) 0 0->WP prog H.length Q K (.exit 0) d (H++some ⟨7,[x.v],false,true⟩ :: some ⟨7,[y.v],false,true⟩ :: some ⟨7,[b7],false,true⟩ :: some ⟨7,[(Iv.four (fun a b=>aT a b p false) (fun a b=>aT a b p true) x y).v],false,true⟩ :: e)) :
 WK prog H.length (.loop vb) K E (H++some ⟨7,[x.v],false,true⟩ :: some ⟨7,[y.v],false,true⟩ :: some ⟨7,[b7],false,true⟩ :: some ⟨7,[b7],false,true⟩ :: []) Q:=by
 refine e9 (fun k E u=>∃i w G,k=4-i/\i<=4/\((i=0/\w=b7)\/(i≠0/\w=Iv.v ⟨cS (fun a b=>aT a b p false) (aO x y) i,cT (fun a b=>aT a b p true) (aO x y) i,false⟩))/\c9 (fun a b=>aT a b p false) (fun a b=>aT a b p true) x y i /\
  E 2=.int .i64 p/\E 6=.ptr (H.length+2) 0 0/\E 7=.sl (jY x y)/\E 8=.ptr (H.length+3) 0 0/\E 9=.int .i64 i /\
  u=H++some ⟨7,[x.v],false,true⟩ :: some ⟨7,[y.v],false,true⟩ :: some ⟨7,[b7],false,true⟩ :: some ⟨7,[w],false,true⟩ :: G) 4 ?_ ?_
 ·exact⟨0,b7,[],rfl,by omega,.inl ⟨rfl,rfl⟩,fun j J=>by omega,s,n,t,o,q,rfl⟩
 ·rintro k E u ⟨i,w,G,P,hi,z,v,s,n,t,o,q,rfl⟩;refine b9 ?_;by_cases l:i<4
  ·obtain⟨L,M⟩:=UD N O l;refine QB H G E x y p i l L M _ _ (iD (f:=(fun a b=>aT a b p false)) (fun _ _=>iS) i) (iC (f:=(fun a b=>aT a b p true)) (fun _ _=>iS) i) w z s n t o q ?_ ?_
   ·intro I d e r;exact m d w e r (Cd (f:=(fun a b=>aT a b p false)) (g:=(fun a b=>aT a b p true)) l I)
   ·intro A B d e C r D e8 F;refine⟨4-(i+1),by omega,i+1,_,e,rfl,by omega,.inr ⟨by omega,?_⟩,?_,C,r,D,e8,F,rfl⟩
    ·rw[kL,kK]
    ·intro j J;by_cases h:j<i
     ·exact v j h
     ·have:j=i:=by omega
      subst this;exact⟨A,B⟩
  ·have:i=4:=by omega
   subst this;rcases z with ⟨h,_⟩|⟨_,rfl⟩
   ·omega
   ·simp[vb,q];rw[kI v]at c;exact c _ G (by simp[n]) (by simp[o])
theorem lD (x y:Iv)(p:Int)(g:x.W)(f:y.W):CQ prog YS [x.v,y.v,.int .i64 p] (x.div y p).v:=by
 refine ap rfl fun H=>?_
 simp;refine ak rfl rfl rfl (tU p) ?_;cases c:af p
 ·simp;refine zq gC ?_;simp[Iv.div,c,lim]
 ·simp;refine ak rfl rfl rfl (kH x g) ?_;cases d:x.known
  ·simp;refine zq gC ?_;simp[Iv.div,d,lim]
  ·simp;refine ak rfl rfl rfl (kH y f) ?_;cases e:y.known
   ·simp;refine zq gC ?_;simp[Iv.div,e,lim]
   ·simp;refine ak rfl rfl rfl (UN y f) ?_;by_cases a:y.sgn=0
    ·simp[a];refine zq gC ?_;simp[Iv.div,a,lim]
    ·simp[a];refine ak rfl rfl rfl (xn x y) ?_;simp;refine fw (PE H x y p g f _ (by simp) (by simp) (by simp) (by simp) (by simp) ?_ ?_) (fun _ _ _ h=>h)
     ·intro i w j b h;simp[b,Iv.div,d,e,c,a,h,lim]
     ·intro i j b e8;simp[b,e8,Iv.div,d,e,c,a,lim,b7]
def Iv.sq (x:Iv)(p:Int):Iv:=if(!x.abs.all&&af p)=true then Iv.made (aM x.abs.lo x.abs.lo p false) (aM x.abs.hi x.abs.hi p true)else Iv.whole
theorem fe {x:Iv}{p:Int}:(x.sq p).W:=by
 unfold Iv.sq;split
 ·exact tt rMul_ok.w rMul_ok.w
 ·exact Iv.whole_W
theorem ZM (x:Iv)(p:Int)(e:x.W):CQ prog qxp [x.v,.int .i64 p] (x.sq p).v:=by
 refine ap rfl fun H=>?_
 have b:=fC e;simp;refine ak rfl rfl rfl (J5 x e) ?_;generalize c:x.abs=y at *
 cases a:y.all
 ·simp[a];refine ak rfl rfl rfl (ra p) ?_;cases d:af p
  ·simp;refine zq dA ?_;simp[Iv.sq,c,d,lim]
  ·simp;refine ak rfl rfl rfl (ZN y.lo y.lo p b.lo b.lo) ?_;simp;refine ak rfl rfl rfl (yF y.hi y.hi p b.hi b.hi) ?_;simp;refine ak rfl rfl rfl (uP (aM y.lo y.lo p false) (aM y.hi y.hi p true)) ?_;simp[Iv.sq,c,a,d,lim]
 ·simp[a];refine zq dA ?_;simp[Iv.sq,c,a,lim]
theorem q3w (x:Iv)(p:Int)(a:x.W):CQ prog qzh [x.v,.int .i64 p] (x.abs.mul x.abs p).v:=by
 refine ap rfl fun H=>?_
 have b:=fC a;simp;refine ak rfl rfl rfl (Mz x a) ?_;simp;refine ak rfl rfl rfl (nf x.abs x.abs p b b) ?_;simp[lim]
def nD (k:Int):Dy:=Dy.of (decide (k<0)) k.natAbs 0
def nI (a b:Int):Iv:=⟨nD a,nD b,false⟩
theorem bR {k:Int}(h:k.natAbs<=4611686018427387904):(nD k).Ok:=by
 unfold nD;have a:ac k.natAbs<=64:=gD (by omega);exact Dy.of_ok (Dy.of_inR (by omega) (by omega) (by omega))
theorem cD {a b:Int}(c:a.natAbs<=4611686018427387904)(d:b.natAbs<=4611686018427387904):(nI a b).W:=⟨(bR c).w,(bR d).w⟩
