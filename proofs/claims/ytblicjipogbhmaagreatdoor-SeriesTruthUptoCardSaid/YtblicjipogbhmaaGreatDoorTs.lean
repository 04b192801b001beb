import Derived.Test.YtblicjipogbhmaaGreatDoorTr
import Derived.Test.YtblicjipogbhmaaGreatDoorXf
import Derived.Test.YtblicjipogbhmaaGreatDoorSj
namespace Go.Abs.W
theorem q5s {x:Iv}{a:Int}(c:x.W)(b:x.Bt (-a) a):(jm x).Bt (-a) a:=by
 have f:=pD c b.k;have d:=b.lo;have e:=b.hi;have le:=bP c b.k;have o:=jM c b.k;unfold jm;rw[(gO b.k).2];simp only[Vv,V8];refine⟨fv (gh o) o (by rw[ie];omega),?_,?_⟩
 ·show _<=x.mag.neg'.val;rw[ie];omega
 ·show x.mag.val<=a;omega
theorem dM : af 320=true:=by decide
theorem iH {a:Nat}(h:a<=32767):aE (320:Int).toNat (pw a):=eK h
theorem vW {d:Dy}{k:Int}(ok:d.Ok)(c:d.m≠[])(C:-20000<=k)(D:k<=20000)(y:-16384<=d.e+k)(z:d.top+k<=100) :
 ∃V:Int,((Iv.pt d).scl k).known=true/\((Iv.pt d).scl k).lo.val=V/\((Iv.pt d).scl k).hi.val=V/\(0<d.val->0<V)/\pw (d.top+k+16383).toNat<=V.natAbs/\(V.natAbs:Int)<=pw (d.top+k+16384).toNat:=by
 have elo:=ok.elo;have⟨A,v⟩:∃A:Nat,A=k.toNat:=⟨_,rfl⟩
 have⟨B,w⟩:∃B:Nat,B=(-k).toNat:=⟨_,rfl⟩
 obtain⟨l,m⟩:=ok.absN_bounds c;have F:=ok.top_pos c;have E:d.e+1<=d.top:=by
  have:=(eF (gf ok.tr c)).2.2;unfold Dy.top;rw[Vk c];omega
 have⟨N,p⟩:∃N:Nat,N=aa d.m*2^(d.e+k+16384).toNat:=⟨_,rfl⟩
 have f:N*2^B=d.absN*2^A:=by
  rw[p];unfold Dy.absN;rw[Vt,Vt,<-Vs,<-Vs]
  congr 2;omega
 have r:2^(d.top+k+16383).toNat<=N:=by
  refine Xw ?_ (Vl B);rw[f,<-Vs,show(d.top+k+16383).toNat+B=(d.top+16383).toNat+A by omega,Vs];exact Vn _ l
 have j:N<2^(d.top+k+16384).toNat:=by
  refine Xv (a:=2^B) ?_;rw[f,<-Vs,show(d.top+k+16384).toNat+B=(d.top+16384).toNat+A by omega,Vs];exact V7 m (Vl A)
 have⟨V,i⟩:∃V:Int,V=if d.neg then -(N:Int)else N:=⟨_,rfl⟩
 have nV:V.natAbs=N:=by rw[i];split<;>omega
 have g:V*pw B=d.val*pw A:=by
  have e:(N:Int)*pw B=(d.absN:Int)*pw A:=by
   unfold pw;have:=W2 (fun n:Nat=>(n:Int)) f;simpa using this
  rw[i];unfold Dy.val;split
  ·rw[V9,V9,e]
  ·exact e
 have cV:V.natAbs<dE:=by
  rw[nV];exact Vx j (Vg (by omega) (by unfold ci;omega))
 obtain⟨s,t,u⟩:=rU (x:=Iv.pt d) (k:=k) (a:=A) (b:=B) (U:=V) (V:=V) (dX ok.w) (lB ok) (by omega) (by omega) (by omega) g g cV cV;refine⟨V,s,t,u,fun q=>?_,?_,?_⟩
 ·have:=Xl q (bf A);rw[<-g]at this;rcases V5 0 V with h|h
  ·exact h
  ·have o:=VB h (Vu (bf B));rw[WV]at o;omega
 ·rw[nV];unfold pw;exact Int.ofNat_le.2 r
 ·rw[nV];unfold pw;exact Int.ofNat_le.2 (W6 j)
theorem v8 {d:Dy}(a:d.m≠[])(ok:d.Ok)(l:d.m.length<=20):d.top<=d.e+640:=by
 have⟨B,b⟩:∃B,B=640:=⟨_,rfl⟩
 have:=bz ok.li;rw[bB]at this;have c:ac (aa d.m)<=B:=gD (Vx this (Vg (by omega) (by omega)));unfold Dy.top;rw[Vk a];omega
theorem jH {t y:Iv}{i:Int}{m:Nat}(wt:t.W)(j:y.W)(c:1<=i)(k:i<=1000)(l:m<=16384)(d:t.Bt (-pw (m+16)) (pw (m+16)))(f:y.Bt (-pw 16368) (pw 16368)) :
 ((t.mul y 320).div (nI i i) 320).Bt (-pw m) (pw m):=by
 have e:pw (m+16)*pw 16368<=pw m*pw 16384:=by
  rw[<-bK,<-bK];exact bd (by omega)
 have a:=j8 wt j dM d f (iH (by omega)) e;have h:=bf 16384;have b:=bf m;have g:pw 16384<=i*pw 16384:=by
  have:=VB c (Vu h);rwa[WN]at this
 exact lg aD (ay (by omega)) dM a (bo (by omega)) (by omega) (iH (by omega)) (Vu b) (V1 g (Vu b))
theorem it {x y:Iv}{c d:Int}{e:Nat}(l:e<=32000)(i:x.W)(j:y.W)(h:(c+d).natAbs<1099511627776)(a:x.Bt (-(c*pw e)) (c*pw e))(f:y.Bt (-(d*pw e)) (d*pw e)) :
 (x.add y 320).Bt (-((c+d)*pw e)) ((c+d)*pw e):=by
 have g:aE (320:Int).toNat ((c+d)*pw e):=by
  refine nh (b:=40) ?_ h (by unfold ci;omega);refine Vp (W6 h) ?_;rw[show(1099511627776:Nat)=2^40 from rfl];exact Vg (by omega) (by decide)
 have k:(c+d)*pw e=c*pw e+d*pw e:=X5 _ _ _;exact pi i j dM a f (jz g) g (by omega) (by omega)
theorem zL {y:Iv}(k:y.W)(j:y.Bt (-pw 16368) (pw 16368)):∀(f i:Nat) (t s:Iv) (c:Int),1<=i->i+f<=1000->0<=c->c+f<1099511627776->t.W->s.W ->
 t.Bt (-pw 16352) (pw 16352)->s.Bt (-(c*pw 16352)) (c*pw 16352) ->
 (bq y f i t s).1.Bt (-pw 16352) (pw 16352)/\(bq y f i t s).2.Bt (-((c+f)*pw 16352)) ((c+f)*pw 16352)/\(bq y f i t s).1.W/\(bq y f i t s).2.W
 |0,i,t,s,c,_,_,_,_,wt,ws,h,g=>by
  rw[show c+((0:Nat):Int)=c by omega];exact⟨h,g,wt,ws⟩
 |f+1,i,t,s,c,n,o,p,q,wt,ws,h,g=>by
  have l:pw 16352<=pw (16352+16):=bd (by omega);have b:=jH (i:=i) (m:=16352) wt k (by omega) (by omega) (by omega) (h.mono (by omega) l) j;have a:=it (c:=c) (d:=1) (e:=16352) (by omega) ws aI (by omega) g (by rw[WN];exact b);have r:=zL k j f (i+1) _ _ (c+1) (by omega) (by omega) (by omega) (by omega) aI aH b a;rw[show c+((f+1:Nat):Int)=c+1+(f:Int) by omega];exact r
theorem Og {y:Iv}(b:y.W)(a:y.Bt (-pw 16368) (pw 16368)):(dF y).Bt (-(4295032852*pw 16352)) (4295032852*pw 16352)/\(dF y).W:=by
 have g:pw 16384=4294967296*pw 16352:=by rw[show 16384=32+16352 from rfl,bK];rfl
 have f:pw 16368=65536*pw 16352:=by rw[show 16368=16+16352 from rfl,bK];rfl
 have p:(nI 1 1).W:=ay (by decide);have u:=bf 16384;have h:(nI 1 1).Bt (-pw 16384) (pw 16384):=(bo (k:=1) (by decide)).mono (by omega) (by omega);have j:=jH (i:=1) (m:=16368) p b (by omega) (by omega) (by omega) h a;have v:=it (c:=4294967296) (d:=65536) (e:=16352) (by omega) p aI (by omega) (by rw[<-g];exact h) (by rw[<-f];exact j);have n:=jH (i:=2) (m:=16352) aI b (by omega) (by omega) (by omega) j a;have w:=it (c:=4294967296+65536) (d:=1) (e:=16352) (by omega) aH aI (by omega) v (by rw[WN];exact n);obtain⟨t,s,wt,ws⟩:=zL b a 18 3 _ _ (4294967296+65536+1) (by omega) (by omega) (by omega) (by omega) aI aH n w;have e:bq y 20 1 (nI 1 1) (nI 1 1)=bq y 18 3 ((((((nI 1 1).mul y 320).div (nI 1 1) 320).mul y 320).div (nI 2 2) 320)) (((nI 1 1).add (((nI 1 1).mul y 320).div (nI 1 1) 320) 320).add (((((nI 1 1).mul y 320).div (nI 1 1) 320).mul y 320).div (nI 2 2) 320) 320):=rfl
 unfold dF;rw[e];generalize (bq y 18 3 _ _).1=T at *
 generalize (bq y 18 3 _ _).2=S at *
 have x:=jH (i:=21) (m:=16336) wt b (by omega) (by omega) (by omega) t a;have A:=bf 16336;have q:(nI 2 2).Bt (-(2*pw 16384)) (2*pw 16384):=(bo (k:=2) (by decide)).mono (by omega) (by omega);have l:pw 16336*(2*pw 16384)<=pw 16352*pw 16384:=by
  rw[<-WD];refine VB ?_ (Vu u);rw[XH,<-eE];exact bd (by omega)
 have o:=j8 aI (ay (by decide)) dM x q (iH (by omega)) l;have z:=q5s aD o;have r:=it (c:=4294967296+65536+1+(18:Nat)) (d:=1) (e:=16352) (by omega) ws (t8 aD (.inr o.k)) (by omega) s (by rw[WN];exact z);rw[show(4294967296:Int)+65536+1+((18:Nat):Int)+1=4295032852 by omega]at r;exact⟨r,aH⟩
def gq : Nat->Nat
 |0=>4295032852
 |j+1=>gq j*gq j/4294967296+1
theorem M3 : ∀j,j<=20->gq j<1152921504606846976:=by decide +kernel
theorem BQ : gq 20<=72057594037927936:=by decide +kernel
def sB (j:Nat):Int:=if j<=20 then gq j*pw 16352 else pw (16384+24*2^(j-20))
theorem LN {j:Nat}(h:j<=26):aE (320:Int).toNat (sB j):=by
 unfold sB;split
 ·rename_i a;have b:=M3 j a;refine nh (b:=60) ?_ (by rw[abE];exact b) (by unfold ci;omega);rw[abE];refine Vp (W6 b) ?_;rw[show(1152921504606846976:Nat)=2^60 from rfl];exact Vg (by omega) (by decide)
 ·refine iH ?_;have:2^(j-20)<=2^6:=Vg (by omega) (by omega);omega
theorem LO {j:Nat}(h:j<26):sB j*sB j<=sB (j+1)*pw 16384:=by
 have c:pw 16384=4294967296*pw 16352:=by rw[show 16384=32+16352 from rfl,bK];rfl
 unfold sB;rcases Vm j 20 with d|d
 ·rw[Vh (by omega),Vh (by omega),c];have q:gq j*gq j<=gq (j+1)*4294967296:=by rw[gq];omega
  have f:(gq j:Int)*gq j<=(gq (j+1):Int)*4294967296:=by rw[<-XC];exact Int.ofNat_le.2 q
  have p:=bf 16352;have:=VB f (Vu (Xl p p));generalize pw 16352=u at *
  generalize (gq j:Int)=a at *
  generalize (gq (j+1):Int)=b at *
  grind
 ·rcases Yl d with e|e
  ·subst e;rw[Vh (by omega),Vk (by omega)];have q:(gq 20:Int)<=72057594037927936:=Int.ofNat_le.2 BQ;have a:(gq 20:Int)*pw 16352<=pw 16408:=by
    rw[show 16408=56+16352 from rfl,bK];exact VB q (Vu (bf _))
   have n:(0:Int)<=(gq 20:Int)*pw 16352:=Xm (by omega) (Vu (bf _));have:=XM a a n (Vu (bf _));rw[<-bK]at this ⊢;exact this
  ·rw[Vk (by omega),Vk (by omega),<-bK,<-bK];refine bd ?_;rw[show j+1-20=(j-20)+1 by omega,VH];omega
theorem A3 : ∀(k j:Nat) (s:Iv),s.W->j+k<=26->s.Bt (-sB j) (sB j)->(kU k s).known=true
 |0,_,_,_,_,b=>b.k
 |k+1,j,s,w,h,b=>A3 k (j+1) _ aD (by omega) (j8 w w dM b b (LN (by omega)) (LO (by omega)))
theorem q5q {d:Dy}(ok:d.Ok)(l:d.m.length<=20)(h:dD d=true):(eA d).known=true:=by
 by_cases a:d.m=[]
 ·unfold eA;rw[Vh a];exact Uz (by decide)
 ·rw[DG a];have t:=sK ok h a;have g:d.top<=d.e+640:=by
   exact v8 a ok l
  have elo:=ok.elo;have c:((Iv.pt d).scl (-((d.top+16).toNat:Nat))).Bt (-pw 16368) (pw 16368):=by
   obtain⟨V,e,f,k3,_,_,k4⟩:=vW (k:=-((d.top+16).toNat:Nat)) ok a (by omega) (by omega) (by omega) (by omega);have:=bd (show(d.top+-((d.top+16).toNat:Nat)+16384).toNat<=16368 by omega);exact⟨e,by omega,by omega⟩
  obtain⟨b,w⟩:=Og iN c;exact A3 _ 0 _ w (by omega) b
theorem zI {q:Iv}(l:q.W)(i:q.Bt (-pw 16382) (pw 16382)):∀(f k:Nat) (w s:Iv) (c:Int),k+f<=1000->0<=c->c+f<1099511627776->w.W->s.W->w.Bt (-pw 16383) (pw 16383)->s.Bt (-(c*pw 16384)) (c*pw 16384) ->
 (bY q f k w s).1.Bt (-pw 16383) (pw 16383)/\(bY q f k w s).2.Bt (-((c+f)*pw 16384)) ((c+f)*pw 16384)/\(bY q f k w s).1.W/\(bY q f k w s).2.W
 |0,k,w,s,c,_,_,_,b,ws,a,g=>by
  rw[show c+((0:Nat):Int)=c by omega];exact⟨a,g,b,ws⟩
 |f+1,k,w,s,c,v,x,y,b,ws,a,g=>by
  have u:=bf 16384;have h:=bf 16383;have e:pw 16384=2*pw 16383:=eE 16383;have t:pw 16383*pw 16382<=pw 16383*pw 16384:=V1 (bd (by omega)) (Vu h);have m:=j8 b l dM a i (iH (by omega)) t;have p:pw 16384<=((2*k+1:Nat):Int)*pw 16384:=by
   have:=VB (show(1:Int)<=((2*k+1:Nat):Int) by omega) (Vu u);rwa[WN]at this
  have j:(((2*k+1:Nat):Int)).natAbs<=1048576:=by omega
  have n:=lg b (ay j) dM a (bo j) (by omega) (iH (by omega)) (Vu h) (V1 p (Vu h));have o:=it (c:=c) (d:=1) (e:=16384) (by omega) ws aI (by omega) g (by rw[WN];exact n.mono (by omega) (by omega));have r:=zI l i f (k+1) _ _ (c+1) (by omega) (by omega) (by omega) aD aH m o;rw[show c+((f+1:Nat):Int)=c+1+(f:Int) by omega];exact r
theorem x4 {z:Iv}(g:z.W)(hz:z.Bt (-pw 16383) (pw 16383)):(gJ z).Bt (-pw 16392) (pw 16392):=by
 have b:=bf 16384;have e:pw 16384=2*pw 16383:=eE 16383;have e8:pw 16387=8*pw 16384:=by rw[show 16387=3+16384 from rfl,bK];rfl
 have t:pw 16392=256*pw 16384:=by rw[show 16392=8+16384 from rfl,bK];rfl
 have sq:pw 16383*pw 16383<=pw 16382*pw 16384:=by rw[<-bK,<-bK];exact bd (by omega)
 have j:=kS g dM hz (iH (by omega)) sq;have r:(nI 0 0).W:=ay (by decide);have b0:(nI 0 0).Bt (-(0*pw 16384)) (0*pw 16384):=(bo (k:=0) (by decide)).mono (by omega) (by omega);obtain⟨m,l,s,ws⟩:=zI fe j 101 0 z (nI 0 0) 0 (by omega) (by omega) (by omega) g r hz b0;have i:(nI 9 9).Bt (-(9*pw 16384)) (9*pw 16384):=(bo (k:=9) (by decide)).mono (by omega) (by omega);have q:pw 16383*(9*pw 16384)<=pw 16387*pw 16384:=by
  rw[<-WD];exact VB (by omega) (Vu b)
 have n:=j8 s (ay (by decide)) dM m i (iH (by omega)) q;have f:=bf 16387;have a:=lg (c:=pw 16387) aD (ay (by decide)) dM n (bo (k:=1624) (by decide)) (by omega) (iH (by omega)) (Vu f) (V1 (by omega) (Vu f));have o:=q5s aI a;have c4:=it (c:=0+(101:Nat)) (d:=8) (e:=16384) (by omega) ws (t8 aI (.inr a.k)) (by omega) l (by rw[<-e8];exact o);have h:(nI 2 2).Bt (-(2*pw 16384)) (2*pw 16384):=(bo (k:=2) (by decide)).mono (by omega) (by omega);have p:2*pw 16384*((0+((101:Nat):Int)+8)*pw 16384)<=pw 16392*pw 16384:=by
  rw[<-WD];exact VB (by omega) (Vu b)
 exact j8 (ay (by decide)) aH dM h c4 (iH (by omega)) p
theorem q5p {d:Dy}(ok:d.Ok)(l:d.m.length<=20)(h:0<d.sgn):(gI d).known=true:=by
 obtain⟨a,hv⟩:=pE ok h;have b:=bf 16384;have m:=bf 16383;have e:pw 16384=2*pw 16383:=eE 16383;have B:pw 16385=2*pw 16384:=eE 16384;have K:=ok.top_pos a;have hi:d.top<=16384:=by have:=ok.top;unfold Dy.top;rw[Vk a];exact this
 have J:d.top<=d.e+640:=by
  exact v8 a ok l
 have A:0<d.absN:=by
  have:=(ok.absN_bounds a).1;have:=Vl (d.top+16383).toNat;omega
 obtain⟨V,u,D,k3,k4,k5,k6⟩:=vW (k:=-d.top) ok a (by omega) (by omega) (by omega) (by omega);have L:=k4 (by rw[hv];omega);rw[show(d.top+-d.top+16383).toNat=16383 by omega]at k5;rw[show(d.top+-d.top+16384).toNat=16384 by omega]at k6;have i:((Iv.pt d).scl (-d.top)).Bt (pw 16383) (pw 16384):=⟨u,by omega,by omega⟩
 have n:(nI 1 1).W:=ay (by decide);have x:(nI (-1) (-1)).W:=ay (by decide);have g:=bo (k:=1) (by decide);have s:=bo (k:=-1) (by decide);have v:=pi (E:=-pw 16383) (F:=pw 16383) iN x dM i s (jz (iH (by omega))) (iH (by omega)) (by omega) (by omega);have w:=pi (E:=pw 16384) (F:=pw 16385) iN n dM i g (iH (by omega)) (iH (by omega)) (by omega) (by omega);have z:=lg (c:=pw 16383) aH aH dM v w b (iH (by omega)) (Vu m) (VL _);have o:=x4 aI z;have f:(nI 1 1).Bt (-pw 16384) (pw 16384):=g.mono (by omega) (by omega);have y:=lg (c:=pw 16383) n (ay (k:=3) (by decide)) dM f (bo (k:=3) (by decide)) (by omega) (iH (by omega)) (Vu m) (by
  rw[<-WD];exact VB (by omega) (Vu b))
 have p:rLog2.Bt (-pw 16392) (pw 16392):=x4 aI y;have j:d.top.natAbs<=1048576:=by omega
 have t:pw 16398=16384*pw 16384:=by rw[show 16398=14+16384 from rfl,bK];rfl
 have H:d.top*pw 16384<=16384*pw 16384:=VB hi (Vu b);have I:-16384*pw 16384<=d.top*pw 16384:=VB (by omega) (Vu b);have r:(nI d.top d.top).Bt (-pw 16398) (pw 16398):=(bo j).mono (by omega) (by omega);have q:=j8 (c:=pw 16406) (ay j) (by unfold rLog2;exact aD) dM r p (iH (by omega)) (by rw[<-bK,<-bK];exact bd (by omega));have G:=bd (show 16392<=16406 by omega);have C:pw 16407=2*pw 16406:=eE 16406;exact(pi (E:=-pw 16407) (F:=pw 16407) (by unfold gJ;exact aD) aD dM o q (jz (iH (by omega))) (iH (by omega)) (by omega) (by omega)).k
theorem KC {a:List Iv}(r:SW a)(l:a.length<=1000){d:Nat->Rat}(n:∀i,(aK a i).In (d i))(q:Rat) :
 ∃b:Nat->Rat,∀(z:Iv) (p:Int),z.W->z.In q->∀i,i<a.length->(aK (dd z a p) i).In (b i):=by
 obtain⟨b,c⟩:=DV (fun k f=>match k with|0=>q|m+1=>jC (fun i=>kq i*d (i+1)) f m/kq m) (0:Rat) fun k f g h=>by
  cases k with
  |zero=>rfl
  |succ m=>
   show jC _ f m/kq m=jC _ g m/kq m;rw[US (fun _ _=>rfl) fun i hi=>h i (by omega)]
 refine⟨b,fun z p t hz=>?_⟩;have s:∀i,∀x ∈ aQ (bV z a p) i,x.W:=fun i=>dI fun _ _ _=>ro t
 have e:∀i,i<a.length->aK (dd z a p) i=bV z a p (aQ (bV z a p) i) i:=fun i hi=>qA hi
 have oE:∀i j,j<i->i<a.length->aK (aQ (bV z a p) i) j=aK (dd z a p) j:=fun i j h u=>by rw[qA h,e j (by omega)]
 intro i;induction i using Nat.strongRecOn with
 |_ i o=>
  intro hi;rw[e i hi];cases i with
  |zero=>rw[show b 0=q from c 0];exact hz
  |succ m=>
   rw[show b (m+1)=jC (fun i=>kq i*d (i+1)) b m/kq m from c (m+1)];exact rM r.2 (s _) (by omega) n fun j v=>by rw[oE (m+1) j (by omega) hi];exact o j (by omega) (by omega)
theorem KY {a:List Iv}(n:SW a)(r:a.length<=1000){b:Nat->Rat}(l:∀i,(aK a i).In (b i))(q:Rat) :
 ∃c:Nat->Rat,∀(z:Iv) (p:Int),z.W->z.In q->∀i,i<a.length->(aK (cO z a p) i).In (c i):=by
 obtain⟨c,d⟩:=DV (fun k f=>match k with|0=>q|m+1=>(b (m+1)-(0+pq (fun i=>kq i*f (i+1)*b (m-i)) m)/kq m)/b 0) (0:Rat) fun k f g h=>by
  cases k with
  |zero=>rfl
  |succ m=>
   show(b (m+1)-(0+pq _ m)/kq m)/b 0=(b (m+1)-(0+pq _ m)/kq m)/b 0;rw[zF m fun i hi=>by rw[h (i+1) (by omega)]]
 refine⟨c,fun z p u hz=>?_⟩;have t:∀i,∀x ∈ aQ (bT z a p) i,x.W:=fun i=>dI fun _ _ _=>rB u
 have o:∀i,i<a.length->aK (cO z a p) i=bT z a p (aQ (bT z a p) i) i:=fun i hi=>qA hi
 have oE:∀i j,j<i->i<a.length->aK (aQ (bT z a p) i) j=aK (cO z a p) j:=fun i j h w=>by rw[qA h,o j (by omega)]
 have v:(nI 0 0).In 0:=vL;intro i;induction i using Nat.strongRecOn with
 |_ i s=>
  intro hi;rw[o i hi];cases i with
  |zero=>rw[show c 0=q from d 0];exact hz
  |succ m=>
   rw[show c (m+1)=(b (m+1)-(0+pq (fun i=>kq i*c (i+1)*b (m-i)) m)/kq m)/b 0 from d (m+1)];have e:=xj (p:=p) (f:=bF (aQ (bT z a p) (m+1)) a p m) jZ (fun _=>dR) v m fun j A=>
    v6 (x:=c (j+1)) (y:=b (m-j)) (t _) n.2 (by omega) (by rw[oE (m+1) (j+1) (by omega) hi];exact s (j+1) (by omega) (by omega)) (l _)
   exact jL aH (bh n.2) (TX (bh n.2) aI (l (m+1)) (jL (nN jZ m) (o8 (by omega)) e (md m))) (l 0)
theorem TS {a:List Iv}(t:SW a)(x:a.length<=1000){u:Nat->Rat}(r:∀i,(aK a i).In (u i))(s c:Rat) :
 ∃b:Nat->Rat × Rat,∀(S C:Iv) (p:Int),S.W->C.W->S.In s->C.In c->∀n,n<=a.length->∀i,i<n->(aK (bN S C a p n).1 i).In (b i).1/\(aK (bN S C a p n).2 i).In (b i).2:=by
 have⟨d,A⟩:∃d:Nat->Rat,d=fun i=>kq i*u (i+1):=⟨_,rfl⟩
 obtain⟨b,e⟩:=DV (fun k f=>match k with|0=>(s,c)|m+1=>(jC d (fun i=>(f i).2) m/kq m,-(jC d (fun i=>(f i).1) m/kq m))) ((0,0):Rat × Rat) fun k f g h=>by
  cases k with
  |zero=>rfl
  |succ m=>
   show(jC d (fun i=>(f i).2) m/kq m,-(jC d (fun i=>(f i).1) m/kq m))=(jC d (fun i=>(g i).2) m/kq m,-(jC d (fun i=>(g i).1) m/kq m));rw[US (g:=fun i=>(f i).2) (g':=fun i=>(g i).2) (fun _ _=>rfl) fun i hi=>by rw[h i (by omega)],US (g:=fun i=>(f i).1) (g':=fun i=>(g i).1) (fun _ _=>rfl) fun i hi=>by rw[h i (by omega)]]
 have v:b 0=(s,c):=e 0;have w:∀m,b (m+1)=(jC d (fun i=>(b i).2) m/kq m,-(jC d (fun i=>(b i).1) m/kq m)):=fun m=>e (m+1)
 refine⟨b,fun S C p J I D z n=>?_⟩;induction n with
 |zero=>intro _ i hi;omega
 |succ n l=>
  intro K i hi;have l:=l (by omega);obtain⟨E,F⟩:=pI (s:=S) (c:=C) (a:=a) (p:=p) n;obtain⟨G,H⟩:=fo (a:=a) (p:=p) J I n;cases n with
  |zero=>
   obtain rfl:i=0:=by omega
   rw[v];exact⟨D,z⟩
  |succ m=>
   show(aK ((bN S C a p (m+1)).1++[fJ a (bN S C a p (m+1)).2 p m]) i).In (b i).1/\(aK ((bN S C a p (m+1)).2++[(fJ a (bN S C a p (m+1)).1 p m).neg]) i).In (b i).2;rcases Vm i (m+1)with h|h
   ·rw[Dt (by omega),Dt (by omega)];exact l i h
   ·obtain rfl:i=m+1:=by omega
    rw[Du E,Du F,w];have q:=rM (p:=p) (m:=m) (y:=fun i=>(b i).2) t.2 H (by omega) r fun j B=>(l j (by omega)).2
    have o:=rM (p:=p) (m:=m) (y:=fun i=>(b i).1) t.2 G (by omega) r fun j B=>(l j (by omega)).1
    rw[<-A]at q o;exact⟨q,rE fx o⟩
theorem SU {a:List Iv}{p:Int}:iJ a p=dd ((aK a 0).exp p) a p:=by
 have:dw a p=bV ((aK a 0).exp p) a p:=by funext o k;cases k<;>rfl
 unfold iJ dd;rw[this]
theorem Tt {a:List Iv}{p:Int}:gQ a p=cO ((aK a 0).log p) a p:=by
 have:bU a p=bT ((aK a 0).log p) a p:=by funext o k;cases k<;>rfl
 unfold gQ cO;rw[this]
theorem Ch {x y:Iv}(d:x.W)(e:y.W)(h:x.known=true->y.known=true->x.lo.val<=y.hi.val/\y.lo.val<=x.hi.val):∃q,x.In q/\y.In q:=by
 by_cases b:x.known=true
 ·by_cases a:y.known=true
  ·obtain⟨f,g⟩:=h b a;have i:=bP d b;have j:=bP e a;rcases Int.le_total x.lo.val y.lo.val with c|c
   ·exact⟨y.lo.rat,tS (rat_le.2 c) (rat_le.2 g),tS (rat_le.2 (VL _)) (rat_le.2 j)⟩
   ·exact⟨x.lo.rat,tS (rat_le.2 (VL _)) (rat_le.2 i),tS (rat_le.2 c) (rat_le.2 f)⟩
  ·exact⟨x.lo.rat,tS (rat_le.2 (VL _)) (rat_le.2 (bP d b)),fun k=>absurd k a⟩
 ·by_cases a:y.known=true
  ·exact⟨y.lo.rat,fun k=>absurd k b,tS (rat_le.2 (VL _)) (rat_le.2 (bP e a))⟩
  ·exact⟨0,fun k=>absurd k b,fun k=>absurd k a⟩
theorem B0 {x y:Iv}{q:Rat}(k:x.W)(l:y.W)(e:x.Gd)(f:y.Gd)(g:x.In q)(h:y.In q):ep x y=true:=
 Nm k l e f fun i j=>by
  obtain⟨a,b⟩:=g i;obtain⟨c,d⟩:=h j;exact⟨Rat.intCast_le_intCast.1 (Wp a d),Rat.intCast_le_intCast.1 (Wp c b)⟩
theorem rL {a o:List Iv}{p:Int}{m:Nat}(b:m<=100000):(fJ a o p m).Gd:=lL (mU dR m) (o8 b)
theorem xu {z:Iv}{a:List Iv}{p:Int}(b:a.length<=1000)(g:z.Gd){k:Nat}(c:k<a.length):(aK (dd z a p) k).Gd:=by
 rw[show aK (dd z a p) k=bV z a p (aQ (bV z a p) k) k from qA c];cases k with
 |zero=>exact g
 |succ m=>exact rL (by omega)
theorem xO {z:Iv}{a:List Iv}{p:Int}(c:SW a)(g:z.Gd){k:Nat}(b:k<a.length):(aK (cO z a p) k).Gd:=by
 rw[show aK (cO z a p) k=bT z a p (aQ (bT z a p) k) k from qA b];cases k with
 |zero=>exact g
 |succ m=>exact lL aH (bh c.2)
theorem rT {S C:Iv}{a:List Iv}{p:Int}(d:S.Gd)(b:C.Gd):∀n,n<=1000->∀i,i<n->(aK (bN S C a p n).1 i).Gd/\(aK (bN S C a p n).2 i).Gd
 |0,_,i,hi=>by omega
 |1,_,i,hi=>by
  obtain rfl:i=0:=by omega
  exact⟨d,b⟩
 |m+2,g,i,hi=>by
  obtain⟨e,f⟩:=pI (s:=S) (c:=C) (a:=a) (p:=p) (m+1);show(aK ((bN S C a p (m+1)).1++[fJ a (bN S C a p (m+1)).2 p m]) i).Gd/\(aK ((bN S C a p (m+1)).2++[(fJ a (bN S C a p (m+1)).1 p m).neg]) i).Gd;rcases Vm i (m+1)with h|h
  ·rw[Dt (by omega),Dt (by omega)];exact rT d b (m+1) (by omega) i h
  ·obtain rfl:i=m+1:=by omega
   rw[Du e,Du f];exact⟨rL (by omega),T6 fx (rL (by omega))⟩
