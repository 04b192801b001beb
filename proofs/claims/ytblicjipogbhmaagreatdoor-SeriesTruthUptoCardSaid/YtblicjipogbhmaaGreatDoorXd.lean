import Derived.Test.YtblicjipogbhmaaGreatDoorXc
namespace Go.Abs.W
theorem lQ {n:Nat}{l:List Nat}:(lim l).lowB n=true:=rfl
theorem Bx {n:Nat}{b:Bool}:(V.bool b).lowB n=true:=rfl
theorem lP {n:Nat}{k:IntKind}{i:Int}:(V.int k i).lowB n=true:=rfl
def tA (P:Int)(sq:Iv):Nat->Iv->Prop
 |0,_=>False
 |f+1,w=>ft P w=true\/tA P sq f (w.mul sq P)
theorem Qw {P:Int}{sq:Iv}{f n:Nat}{w s:Iv}(h:ft P w=true):ef P sq (f+1) n w s=(w,s):=by
 unfold ef;rw[Vh h]
theorem Pk {P:Int}{sq:Iv}{f n:Nat}{w s:Iv}(h:ft P w=false):ef P sq (f+1) n w s=ef P sq f (n+2) (w.mul sq P) (s.add ((w.mul sq P).div (nI n n) P) P):=by
 conv=>lhs;unfold ef
 simp only[h,Vv,V8]
theorem xm (P:Int)(z:Iv)(j:z.W)(K:0<=P)(i:P<=1000000)(L:tA P (z.sq P) 1000 z):CQ prog qsr [wk P,z.v] (fl P z).v:=by
 refine ap rfl fun H=>?_
 have B:=ZM z P j;have U:(z.sq P).W:=fe;have D:fl P z=((ef P (z.sq P) 1000 3 z z).2.add (iZ (ef P (z.sq P) 1000 3 z z).1) P).scl 1:=rfl;rw[D];generalize Z:z.sq P=q at *
 simp[wk];refine zq B ?_;simp[lQ,Bx,lP,dx];refine e9 (fun k E l=>∃(n:Nat) (w s:Iv),l=H++[some ⟨1,[.agg [.int .i64 P]],false,true⟩,some ⟨7,[z.v],false,true⟩,some ⟨7,[b7],false,true⟩,some ⟨7,[q.v],false,true⟩,some ⟨7,[w.v],false,true⟩,some ⟨7,[s.v],false,true⟩] /\
  E 2=.ptr H.length 0 0/\E 3=.ptr (H.length+1) 0 0/\E 4=.ptr (H.length+2) 0 0/\E 5=.ptr (H.length+3) 0 0/\E 6=.ptr (H.length+4) 0 0/\E 7=.ptr (H.length+5) 0 0/\E 8=.int .i64 n/\w.W/\s.W/\n+2*k<=2003/\tA P q k w/\ef P q k n w s=ef P q 1000 3 z z) 1000 ?_ ?_
 ·exact⟨3,z,z,by simp[b7],by simp,by simp,by simp,by simp,by simp,by simp,by simp,j,j,by omega,L,rfl⟩
 ·rintro k E l ⟨n,w,s,rfl,b,J,o,p,c,h,r,g,ws,Y,d,t⟩;cases k with
  |zero=>exact d.elim
  |succ k=>
   have e:ft P w=true\/tA P q k (w.mul q P):=d;have cs:=AS P w g K i;have y:=sv P w q g U;have u:(w.mul q P).W:=aD;have Q:(nI (n:Int) (n:Int)).W:=cD (by omega) (by omega);have A:=nm n (by omega) (by omega);have cd:=Dz P (w.mul q P) (nI n n) u Q;have O:((w.mul q P).div (nI n n) P).W:=aI;have v:=qH P s _ ws O;have N:(s.add ((w.mul q P).div (nI n n) P) P).W:=aH;have F:IntKind.i64.wrap ((n:Int)+2)=((n+2:Nat):Int):=by rw[wrap_i64]<;>omega
   have G:=@Qw P q k n w s;have I:=@Pk P q k n w s;generalize W:s.add ((w.mul q P).div (nI n n) P) P=S at *
   generalize hT:(w.mul q P).div (nI n n) P=T at *
   generalize hM:w.mul q P=M at *
   simp only[wk]at *
   refine b9 ?_;simp[ZF,b,c];refine zq cs ?_;cases a:ft P w
   ·have f:=e.resolve_left (by simp[a]);simp[b,p,c];refine zq y ?_;simp[b,c,h,r];refine zq A ?_;simp;refine zq cd ?_;simp;refine zq v ?_;simp[b,J,o,p,c,h,r];exact⟨k,by omega,n+2,M,S,by simp,by simpa using F,u,N,by omega,f,by rw[<-I a,t]⟩
   ·have m:=G a;rw[t]at m;have C:=ZY w g;have wr:(iZ w).W:=tQ g;have x:=qH P s (iZ w) ws wr;have cl:=tR (s.add (iZ w) P) 1 aH;simp[b,c,h];refine zq C ?_;simp;refine zq x ?_;simp;refine zq cl ?_;simp[o,m,lim,b7]
section
variable {P : Nat} {q w s z : Iv}
theorem lS (a:24<=P)(b:P<=512):af (P:Int)=true:=precB_iff.2 (by omega)
theorem KZ (a:24<=P)(b:P<=512)(e:q.W)(c:q.Bt (-pw 16382) (pw 16382)){i:Nat}(hi:i<=300)(f:w.W)(d:w.Bt (-pw (16383-2*i)) (pw (16383-2*i))) :
 (w.mul q P).Bt (-pw (16383-2*(i+1))) (pw (16383-2*(i+1))):=
 j8 f e (lS a b) d c (eK (by omega)) (by rw[<-bK,<-bK];exact bd (by omega))
theorem YY (j:P<=512){i:Nat}(b:w.W)(a:w.Bt (-pw (16383-2*i)) (pw (16383-2*i)))(h:¬ft P w=true):2*i<P:=by
 rw[U8 b a.k (by omega)]at h;have k:=pD b a.k;have e:=a.lo;have f:=a.hi;have d:=bP b a.k;rcases Vm (2*i) P with c|c
 ·exact c
 ·exfalso;have g:pw (16383-2*i)<pw (16384-P):=pw_lt_iff.2 (by omega);have:=bf (16383-2*i);omega
theorem zP (e:24<=P)(d:P<=512)(j:q.W)(g:q.Bt (-pw 16382) (pw 16382)):∀(f i:Nat) (w:Iv),w.W->w.Bt (-pw (16383-2*i)) (pw (16383-2*i))->i<=300->P<=2*(i+f)->0<f->i<300->tA P q (f+1) w
 |0,i,w,_,_,_,_,l,_=>absurd l (by decide)
 |f+1,i,w,k,h,hi,m,_,hi2=>by
  by_cases c:ft P w=true
  ·exact .inl c
  ·have:=YY d k h c;right;have b:=KZ e d j g hi k h;cases f with
   |zero=>
    left;by_cases a:ft P (w.mul q P)=true
    ·exact a
    ·have:=YY d aD b a;omega
   |succ f=>exact zP e d j g (f+1) (i+1) _ aD b (by omega) (by omega) (by omega) (by omega)
theorem Ki (a:24<=P)(b:P<=512)(c:z.W)(hz:z.Bt (-pw 16383) (pw 16383)):(z.sq P).Bt (-pw 16382) (pw 16382):=
 kS c (lS a b) hz (eK (by omega)) (by rw[<-bK,<-bK];exact bd (by omega))
theorem AP (b:24<=P)(c:P<=512)(d:z.W)(hz:z.known=true->z.Bt (-pw 16383) (pw 16383)):tA P (z.sq P) 1000 z:=by
 cases a:z.known
 ·exact .inl (by unfold ft;rw[a];rfl)
 ·exact zP b c fe (Ki b c d (hz a)) 999 0 z d (hz a) (by omega) (by omega) (by omega) (by omega)
theorem ot {P:Int}{z:Iv}:(fl P z).W:=iN
theorem OG (c:24<=P)(d:P<=512):((nI 1 1).div (nI 3 3) P).Bt (-pw 16383) (pw 16383):=by
 have a:=bo (k:=1) (by decide);have b:=bo (k:=3) (by decide);have e:=bf 16384;have f:pw 16384=2*pw 16383:=eE 16383;rw[WN]at a;exact lg (m:=3*pw 16384) (ay (by decide)) (ay (by decide)) (lS c d) (a.mono (by omega) (VL _)) b (by omega) (eK (by omega)) (by omega) (by
  rw[<-WD];exact(ed e).2 (by omega))
end
theorem Nf {p:Int}(a:af p=true):∃P:Nat,gP p 16=(P:Int)/\24<=P/\P<=512:=by
 have b:=precB_iff.1 a;have⟨P,c⟩:∃P:Nat,P=(gP p 16).toNat:=⟨_,rfl⟩
 refine⟨P,?_,?_,?_⟩<;>unfold gP at*<;> omega
theorem xM {p:Int}:(dj p).W:=by
 unfold dj;split
 ·exact kz
 ·exact Iv.whole_W
theorem J7 (p:Int):CQ prog q2u [.int .i64 p] (dj p).v:=by
 refine ap rfl fun H=>?_
 cases b:af p
 ·have e:dj p=Iv.whole:=by unfold dj;rw[b];rfl
  have c:p<8\/512<p:=by
   rcases V5 p 8 with h|h
   ·exact .inl h
   ·right;rcases V5 512 p with a|a
    ·exact a
    ·rw[precB_iff.2 ⟨h,a⟩]at b;cases b
  rw[e];rcases c with h|h
  ·simp[h];refine zq dA ?_;simp[lim]
  ·have j:¬p<8:=by omega
   simp[h,j];refine zq dA ?_;simp[lim]
 ·have k:=precB_iff.1 b;obtain⟨P,f,d,a⟩:=Nf b;have g:=Uv p 16 (by omega) (by omega) (by omega) (by omega);rw[f]at g;have l:¬p<8:=by omega
  have m:¬512<p:=by omega
  have n:(nI 1 1).W:=ay (by decide);have o:(nI 3 3).W:=ay (by decide);have cd:=Dz P (nI 1 1) (nI 3 3) n o;have cl:=xm P ((nI 1 1).div (nI 3 3) P) aI (by omega) (by omega) (AP d a aI fun _=>OG d a);have i:=uR (fl P ((nI 1 1).div (nI 3 3) P)) p ot;have e:dj p=(fl P ((nI 1 1).div (nI 3 3) P)).rnd p:=by unfold dj;rw[Vh b,f]
  rw[e];simp only[wk]at g cd cl;simp[l,m];refine zq g ?_;simp;refine ak rfl rfl rfl (nm 1 (by omega) (by omega)) ?_;simp;refine ak rfl rfl rfl (nm 3 (by omega) (by omega)) ?_;simp;refine zq cd ?_;simp;refine zq cl ?_;simp;refine zq i ?_;simp[lim]
end Go.Abs.W
namespace Go.Abs.W
section
variable {d : Dy} {P : Nat}
theorem pE (ok:d.Ok)(h:0<d.sgn):d.m≠[]/\d.val=d.absN:=by
 have b:d.m≠[]:=by
  intro a;have:=sgn0.2 a;omega
 have hv:=(mK ok).1.1 h;have:=pX d;exact⟨b,by omega⟩
theorem Tp (ok:d.Ok)(h:0<d.sgn)(n:24<=P)(o:P<=512)(a:((Iv.pt d).rnd P).known=true) :
 pw (d.top+16383).toNat<=((Iv.pt d).rnd P).lo.val/\((Iv.pt d).rnd P).hi.val<=pw (d.top+16384).toNat:=by
 obtain⟨b,hv⟩:=pE ok h;obtain⟨j,k⟩:=ok.absN_bounds b;have q:=ok.top_pos b;have i:d.top<=16384:=by have:=ok.top;unfold Dy.top;rw[Vk b];exact this
 have c:=lS n o;have l:pw (d.top+16383).toNat<=d.val:=by rw[hv];unfold pw;exact Int.ofNat_le.2 j
 have u:d.val<=pw (d.top+16384).toNat:=by rw[hv];unfold pw;exact Int.ofNat_le.2 (W6 k)
 unfold Iv.rnd at a ⊢;rw[lB ok,c,Vh (by rfl)]at a ⊢;unfold Iv.made at a ⊢;split at a
 ·rename_i f;rw[Vh f];have m:=qT ok c;have up:=qU ok c;refine⟨(m.atl (eK (by omega)) l).2,?_⟩;by_cases p:d.top<=16383
  ·exact(up.atu (eK (by omega)) u).2
  ·have g:=(up.grid f.2).2;have e:(d.top+16384).toNat=ci:=by unfold ci;omega
   have:pw ci=((dE:Nat):Int):=rfl;rw[e,this];show(fj d P true).1.val<=_;omega
 ·cases a
def gR (d:Dy)(P:Int):Iv:=((Iv.pt d).rnd P).scl (-d.top)
def kO (d:Dy)(P:Int):Iv:=((gR d P).add (nI (-1) (-1)) P).div ((gR d P).add (nI 1 1) P) P
theorem zS {r s:Dy × Int}(a:(Iv.made r s).known=true):r.2=0/\s.2=0/\Iv.made r s=⟨r.1,s.1,false⟩:=by
 unfold Iv.made at a ⊢;split at a
 ·rename_i h;exact⟨h.1,h.2,Vh h⟩
 ·cases a
theorem Tm (ok:d.Ok)(h:0<d.sgn)(o:24<=P)(p:P<=512)(i:(gR d P).known=true):(gR d P).Bt (pw 16383) (pw 16384):=by
 obtain⟨j,hv⟩:=pE ok h;have y:=ok.top_pos j;have l:d.top<=16384:=by have:=ok.top;unfold Dy.top;rw[Vk j];exact this
 have c:=i;unfold gR Iv.scl at c;by_cases f:((Iv.pt d).rnd P).known=true
 ·rw[Vh f]at c;have g:gR d P=Iv.made (((Iv.pt d).rnd P).lo.scl (-d.top),((Iv.pt d).rnd P).lo.sclE (-d.top)) (((Iv.pt d).rnd P).hi.scl (-d.top),((Iv.pt d).rnd P).hi.sclE (-d.top)):=by
   unfold gR Iv.scl;rw[Vh f]
  obtain⟨a,b⟩:=Tp ok h o p f;obtain⟨s,t,e⟩:=zS c;obtain⟨q,r⟩:=bg kz f;have⟨A,w⟩:∃A:Nat,A=(-d.top).toNat:=⟨_,rfl⟩
  have⟨B,x⟩:∃B:Nat,B=d.top.toNat:=⟨_,rfl⟩
  have u:=By (k:=-d.top) (a:=A) (b:=B) q (by omega) s;have v:=By (k:=-d.top) (a:=A) (b:=B) r (by omega) t;have n:=bf B;have m:=bf A;refine⟨i,?_,?_⟩
  ·refine(ed n).1 ?_;rw[g,e];show _<=(((Iv.pt d).rnd P).lo.scl (-d.top)).val*pw B;rw[u,<-bK,show 16383+B=(d.top+16383).toNat+A by omega,bK];exact(ed m).2 a
  ·refine(ed n).1 ?_;rw[g,e];show(((Iv.pt d).rnd P).hi.scl (-d.top)).val*pw B<=_;rw[v,<-bK,show 16384+B=(d.top+16384).toNat+A by omega,bK];exact(ed m).2 b
 ·rw[Vk f]at c;cases c
theorem Tn (ok:d.Ok)(h:0<d.sgn)(c:24<=P)(e:P<=512)(j:(gR d P).known=true):(kO d P).Bt (-pw 16383) (pw 16383):=by
 have b:=Tm ok h c e j;have a:=lS c e;have g:=bo (k:=1) (by decide);have i:=bo (k:=-1) (by decide);have l:(nI 1 1).W:=ay (by decide);have n:(nI (-1) (-1)).W:=ay (by decide);have f:(gR d P).W:=iN;have q:pw 16384=2*pw 16383:=eE 16383;have r:=bf 16383;have o:=pi (E:=-pw 16383) (F:=pw 16383) f n a b i (jz (eK (by omega))) (eK (by omega)) (by omega) (by omega);have p:=pi (E:=3*pw 16383) (F:=pw 16385) f l a b g (nh (b:=2) (by
  have:2^2<=2^(P:Int).toNat:=Vg (by omega) (by rw[lh];omega);have:(2:Nat)^2=4:=rfl;show 3<=_;omega) (by decide) (by unfold ci;omega)) (eK (by omega)) (by omega) (by have:pw 16385=2*pw 16384:=eE 16384;omega)
 exact lg (m:=3*pw 16383) aH aH a o p (by omega) (eK (by omega)) (by omega) (V1 (by omega) (by omega))
theorem Pi (b:(gR d P).known=false):(kO d P).known=false:=by
 have e:(gR d P).add (nI (-1) (-1)) P=Iv.whole:=by unfold Iv.add;rw[b];rfl
 have a:∀y:Iv,Iv.whole.div y P=Iv.whole:=fun y=>by
  have:Iv.whole.known=false:=rfl;unfold Iv.div;rw[this];rfl
 unfold kO;rw[e,a];rfl
theorem KU (ok:d.Ok)(h:0<d.sgn)(b:24<=P)(c:P<=512):(kO d P).known=true->(kO d P).Bt (-pw 16383) (pw 16383):=by
 intro hz;cases a:(gR d P).known
 ·rw[Pi a]at hz;cases hz
 ·exact Tn ok h b c a
end
theorem To {p:Int}(a:af p=true):∃P:Nat,gP p 40=(P:Int)/\24<=P/\P<=512:=by
 have b:=precB_iff.1 a;have⟨P,c⟩:∃P:Nat,P=(gP p 40).toNat:=⟨_,rfl⟩
 refine⟨P,?_,?_,?_⟩<;>unfold gP at*<;> omega
theorem io {d:Dy}{p:Int}:(jc d p).W:=by
 unfold jc;split
 ·exact⟨Dy.zero_W,Dy.zero_W⟩
 ·exact kz
theorem Tl {d:Dy}{p:Int}{P:Nat}(a:¬d.cmp (nD 1)=0)(b:gP p 40=(P:Int)):jc d p=((fl P (kO d P)).add ((nI d.top d.top).mul (dj P) P) P).rnd p:=by
 unfold jc;rw[Vk a];simp only[b];rfl
theorem YG (d:Dy)(p:Int)(ok:d.Ok)(h:0<d.sgn)(n:af p=true):CQ prog qt8 [d.v,.int .i64 p] (jc d p).v:=by
 refine ap rfl fun H=>?_
 obtain⟨m,_⟩:=pE ok h;have D:=ok.top_pos m;have o:d.top<=16384:=by have:=ok.top;unfold Dy.top;rw[Vk m];exact this
 have y:=precB_iff.1 n;have c:=qr 1 (by omega) (by omega);rw[<-show nD 1=Dy.of (decide ((1:Int)<0)) (1:Int).natAbs 0 from rfl]at c;have t:=lf d ok.w;have pt:=qN d ok.w;rw[ok.valid]at t pt;rw[Vh rfl]at t pt;simp;refine zq c ?_;simp;refine ak rfl rfl rfl (lj d (nD 1) ok.w (bR (by omega)).w) ?_;by_cases b:d.cmp (nD 1)=0
 ·simp[b,jc,Dy.zero,lim]
 ·obtain⟨P,l,j,k⟩:=To n;have g:=Uv p 40 (by omega) (by omega) (by omega) (by omega);rw[l]at g;have x:IntKind.i64.wrap (-d.top)=-d.top:=by rw[wrap_i64]<;>omega
  have rc:=uR (Iv.pt d) P (dX ok.w);have sc:=tR ((Iv.pt d).rnd P) (-d.top) kz;have s:(gR d P).W:=iN;have v:=nm 1 (by omega) (by omega);have w:=nm (-1) (by omega) (by omega);have ct:=nm d.top (by omega) (by omega);have B:(nI 1 1).W:=ay (by decide);have C:(nI (-1) (-1)).W:=ay (by decide);have wt:(nI d.top d.top).W:=ay (by omega);have e:=qH P (gR d P) (nI (-1) (-1)) s C;have f:=qH P (gR d P) (nI 1 1) s B;have a:=Dz P ((gR d P).add (nI (-1) (-1)) P) ((gR d P).add (nI 1 1) P) aH aH;have u:(kO d P).W:=aI;have q:=xm P (kO d P) u (by omega) (by omega) (AP j k u (KU ok h j k));have z:=J7 P;have r:=sv P (nI d.top d.top) (dj P) wt xM;have i:=qH P (fl P (kO d P)) ((nI d.top d.top).mul (dj P) P) ot aD;have A:=uR ((fl P (kO d P)).add ((nI d.top d.top).mul (dj P) P) P) p aH;rw[Tl b l];rw[show((Iv.pt d).rnd P).scl (-d.top)=gR d P from rfl]at sc
  rw[show((gR d P).add (nI (-1) (-1)) P).div ((gR d P).add (nI 1 1) P) P=kO d P from rfl]at a;generalize kO d P=Z at *
  generalize gR d P=M at *
  simp only[wk]at g e f a q r i;simp[b];refine zq g ?_;simp;refine zq t ?_;simp;refine zq pt ?_;simp;refine zq rc ?_;simp[x];refine zq sc ?_;simp;refine zq w ?_;simp;refine zq e ?_;simp;refine zq v ?_;simp;refine zq f ?_;simp;refine zq a ?_;simp;refine zq q ?_;simp;refine zq ct ?_;simp;refine zq z ?_;simp;refine zq r ?_;simp;refine zq i ?_;simp;refine zq A ?_;simp[lim]
theorem St (x:Iv)(p:Int)(w:x.W):CQ prog q4y [x.v,.int .i64 p] (x.log p).v:=by
 refine ap rfl fun H=>?_
 have f:=xy x p w;simp;refine zq f ?_;cases c:x.known
 ·simp;refine zq dA ?_;simp[Iv.log,c,lim]
 ·obtain⟨g,h⟩:=bg w c;have s:=mX x.lo g.w;rw[g.valid,Vh rfl]at s;have j:=bP w c;cases e:af p
  ·simp;refine zq dA ?_;simp[Iv.log,e,lim]
  ·simp;refine zq s ?_;by_cases b:0<x.lo.sgn
   ·have a:¬x.lo.sgn<=0:=by omega
    have i:0<x.hi.sgn:=(mK h).1.2 (by have:=(mK g).1.1 b;omega);simp[a];refine ak rfl rfl rfl (YG x.lo p g b e) ?_;simp;refine ak rfl rfl rfl (YG x.hi p h i e) ?_;simp;refine ak rfl rfl rfl (yT (jc x.lo p) (jc x.hi p)) ?_;simp[Iv.log,c,e,b,lim]
   ·have a:x.lo.sgn<=0:=by omega
    simp[a];refine zq dA ?_;simp[Iv.log,b,lim]
end Go.Abs.W
namespace Go.Abs.W
theorem sw {a b:Iv}(c:a.W)(d:b.W):(bM a b).W:=by
 unfold bM;split
 ·exact Iv.whole_W
 ·exact⟨c.lo,d.hi⟩
