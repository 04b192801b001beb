import Derived.Test.YtblicjipogbhmaaGreatDoorVa
import Derived.Test.YtblicjipogbhmaaGreatDoorHm
import Derived.Test.YtblicjipogbhmaaGreatDoorFi
namespace Go.Abs.W
def bA (n:Int):Dy:=Dy.of false 1 n
theorem zi : ac 1=1:=rfl
theorem TJ {n:Int}(a:-16384<=n)(b:n<=16000):(bA n).inR=true:=Dy.of_inR (by rw[zi];omega) a (by rw[zi];omega)
theorem jJ {n:Int}(a:-16384<=n)(b:n<=16000):(bA n).Ok:=Dy.of_ok (TJ a b)
theorem pF {n:Int}(a:-16384<=n):(bA n).val=pw (n+16384).toNat:=by
 unfold bA;rw[pm a];simp only[Vv,V8,WH];rfl
theorem DN (n:Int)(f:-16384<=n)(g:n<=16000):CQ prog q19 [.int .i64 n] (bA n).v:=by
 have b:CQ prog q4v [.bool false,lim [1],.int .i64 n] (.tup [(bA n).v,.int .i64 0]):=by
  refine ap rfl fun H=>?_
  have c:=YH n;rw[aaE (show -32768<=n by omega),aaE (show n<=32768 by omega)]at c;have e:=ew false [1] n (by simp) (by intro x h;simp at h;omega) (by omega) (by omega);rw[show aa [1]=1 from rfl,show Dy.of false 1 n=bA n from rfl]at e;have a:=ZL (bA n) (jJ f g).w;rw[(jJ f g).valid]at a;simp only[Wm]at a;generalize bA n=d at *
  simp[lim];refine zq c ?_;simp;refine zq e ?_;simp;refine zq a ?_;simp[lim]
 refine ap rfl fun H=>?_
 generalize bA n=d at *
 simp;refine bt rfl rfl (H1:=_) (vs:=[.bool false,lim [1],.int .i64 n]) (by simp[prep,ah,aF,lim];rfl) b ?_;simp[lim]
theorem kG (k:Int)(a:-4611686018427387904<=k)(b:k<=4611686018427387904):CQ prog q17 [.int .i64 k] (nI k k).v:=by
 refine ap rfl fun H=>?_
 have c:=TP k a b;have d:=tT (nD k);rw[show Iv.pt (nD k)=nI k k from rfl]at d;generalize nI k k=P at *
 generalize nD k=one at *
 simp;refine zq c ?_;simp;refine zq d ?_;simp[lim]
theorem ZK : Iv.whole.mag=Dy.zero:=by
 have a:Dy.zero.abs=Dy.zero:=by unfold Dy.abs;rw[Vk (fun h=>h.2 rfl)]
 show Dy.zero.abs.hi2 Dy.zero.abs=Dy.zero;rw[a,Ce]
theorem MD (x:Iv)(d:x.W)(g:x.Gd):CQ prog YT [x.v] x.mag.v:=by
 rcases g with rfl|c
 ·refine ap rfl fun H=>?_
  have a:=mA Dy.zero;have b:=qC Dy.zero Dy.zero Dy.zero_ok Dy.zero_ok;rw[show Dy.zero.neg'=Dy.zero from by decide]at a;rw[ZK];rw[Ce]at b;have ev:Iv.whole=⟨Dy.zero,Dy.zero,true⟩:=rfl;rw[ev];generalize Dy.zero=z at *
  simp;refine zq a ?_;simp;refine zq b ?_;simp[lim]
 ·exact sk x d c
theorem K1 {x:Iv}(b:x.W)(g:x.Gd):x.mag.Ok:=by
 rcases g with rfl|a
 ·rw[ZK];exact Dy.zero_ok
 ·exact jM b a
def fY (x:Iv)(n:Int):Bool:=decide (x.mag.cmp (bA n)<0)
theorem zh (x:Iv)(n:Int)(e:x.W)(g:x.Gd)(a:-16384<=n)(b:n<=16000):CQ prog q18 [x.v,.int .i64 n] (.bool (fY x n)):=by
 refine ap rfl fun H=>?_
 have f:=MD x e g;have h:=DN n a b;have i:=px x.mag (bA n) (K1 e g) (jJ a b);unfold fY;generalize x.mag.cmp (bA n)=c at *
 generalize x.mag=m at *
 generalize bA n=d at *
 simp;refine zq f ?_;simp;refine zq h ?_;simp;refine zq i ?_;simp
theorem xU {x:Iv}(w:x.W)(g:x.Gd):x.neg.Gd:=by
 rcases g with rfl|k
 ·left;rfl
 ·exact .inr (ma w ⟨k,VL _,VL _⟩).k
def js (q:Iv)(p:Int):Nat->Nat->Iv->Iv->Iv
 |0,_,_,s=>s
 |f+1,n,w,s=>if fY w (-p)=true then s else js q p f (n+2) (w.mul q p).neg (s.add ((w.mul q p).neg.div (nI n n) p) p)
def jK (q:Iv)(p:Int):Nat->Iv->Prop
 |0,w=>fY w (-p)=true
 |f+1,w=>fY w (-p)=true\/jK q p f (w.mul q p).neg
def dm (y:Iv)(p:Int):Iv:=(js (y.sq p) p 1000 3 y y).add (eV (bA (-p))) p
theorem ph {q:Iv}{p:Int}:∀(f n:Nat) (w s:Iv),s.W->(js q p f n w s).W
 |0,_,_,_,h=>h
 |f+1,n,w,s,h=>by
  unfold js;split
  ·exact h
  ·exact ph f (n+2) _ _ aH
theorem nv {d:Dy}(w:d.Ok):(eV d).W:=⟨(gh w).w,w.w⟩
set_option maxHeartbeats 1000000 in
theorem yn (y:Iv)(p:Int)(l:y.W)(Y:y.Gd)(h1:8<=p)(h2:p<=10000)(Z:jK (y.sq p) p 1000 y):CQ prog q8c [y.v,.int .i64 p] (dm y p).v:=by
 refine ap rfl fun H=>?_
 have C:=q3w y p l;rw[vV l]at C;have O:(y.sq p).W:=fe;have T:dm y p=(js (y.sq p) p 1000 3 y y).add (eV (bA (-p))) p:=rfl;rw[T];generalize y.sq p=q at *
 have v:IntKind.i64.wrap (-p)=-p:=by rw[wrap_i64]<;>omega
 simp;refine zq C ?_;simp[lQ,Bx,lP,dx];refine e9 (fun f E B=>∃(n:Nat) (w s:Iv),(∃G,B=H++some ⟨7,[y.v],false,true⟩ :: some ⟨7,[b7],false,true⟩ :: some ⟨7,[q.v],false,true⟩ :: some ⟨7,[w.v],false,true⟩ :: some ⟨7,[s.v],false,true⟩ :: G) /\
  E 1=.int .i64 p/\E 4=.ptr (H.length+1) 0 0/\E 5=.ptr (H.length+2) 0 0/\E 6=.ptr (H.length+3) 0 0/\E 7=.ptr (H.length+4) 0 0/\E 8=.int .i64 n/\w.W/\w.Gd/\s.W/\n+2*f=2003/\jK q p f w/\js q p f n w s=js q p 1000 3 y y) 1000 ?_ ?_
 ·exact⟨3,y,y,⟨[],by simp[b7,lim]⟩,by simp,by simp,by simp,by simp,by simp,by simp,l,Y,l,by omega,Z,rfl⟩
 ·rintro f E B ⟨n,w,s,⟨G,rfl⟩,b,F,J,g,u,e8,z,W,ws,hf,a,K⟩;have k:=zh w (-p) z W (by omega) (by omega);cases e:fY w (-p)
  ·obtain⟨f,rfl⟩:∃j,f=j+1:=by
    cases f with
    |zero=>unfold jK at a;rw[e]at a;cases a
    |succ j=>exact⟨j,rfl⟩
   have i:jK q p f (w.mul q p).neg:=by
    unfold jK at a;rw[e]at a;rcases a with h|h
    ·cases h
    ·exact h
   have c:js q p f (n+2) (w.mul q p).neg (s.add ((w.mul q p).neg.div (nI n n) p) p)=js q p 1000 3 y y:=by
    rw[<-K];show _=if fY w (-p)=true then s else _;rw[e,Vk (by decide)]
   rw[e]at k;have x:(w.mul q p).W:=aD;have m:=nf w q p z O;have r:=tP (w.mul q p) x;have U:=xU x (ov z O (p:=p));have L:(w.mul q p).neg.W:=bZ x;have t:=kG (n:Int) (by omega) (by omega);have wI:(nI (n:Int) (n:Int)).W:=ay (by omega);have c4:=lD (w.mul q p).neg (nI n n) p L wI;have wd:((w.mul q p).neg.div (nI n n) p).W:=aI;have P:=jS s ((w.mul q p).neg.div (nI n n) p) p ws wd;have wa:(s.add ((w.mul q p).neg.div (nI n n) p) p).W:=aH;have Q:IntKind.i64.wrap ((n:Int)+2)=((n+2:Nat):Int):=by rw[wrap_i64]<;>omega
   generalize s.add ((w.mul q p).neg.div (nI n n) p) p=S at *
   generalize (w.mul q p).neg.div (nI n n) p=D at *
   generalize (w.mul q p).neg=N at *
   generalize w.mul q p=M at *
   generalize nI (n:Int) (n:Int)=I at *
   refine b9 ?_;simp[Ie,b,g,v];refine zq k ?_;simp[b,J,g];refine zq m ?_;simp;refine zq r ?_;simp[g,u,e8];refine zq t ?_;simp[b];refine zq c4 ?_;simp[b];refine zq P ?_;simp[b,F,J,g,u,e8];exact⟨f,by omega,n+2,N,S,by simp,by simpa using Q,L,U,wa,by omega,i,c⟩
  ·rw[e]at k;have c:s=js q p 1000 3 y y:=by
    rw[<-K];cases f with
    |zero=>rfl
    |succ f=>show _=if fY w (-p)=true then s else _;rw[e,Vh rfl]
   have o:=jJ (n:=-p) (by omega) (by omega);have m:=DN (-p) (by omega) (by omega);have r:=AA (bA (-p));have t:=jS s (eV (bA (-p))) p ws (nv o);rw[<-c];generalize s.add (eV (bA (-p))) p=S at *
   generalize eV (bA (-p))=A at *
   generalize bA (-p)=d at *
   refine b9 ?_;simp[Ie,b,g,v];refine zq k ?_;simp[b,u,v];refine zq m ?_;simp;refine zq r ?_;simp[b];refine zq t ?_;simp[F,b7,lim]
theorem Cp {x:Iv}{p:Nat}(a:x.W)(k:x.known=true)(b:p<=16384):fY x (-(p:Int))=true↔x.mag.val<pw (16384-p):=by
 unfold fY;rw[VT,gB (jM a k) (jJ (by omega) (by omega)),pF (by omega),show(-(p:Int)+16384).toNat=16384-p by omega];unfold cG;constructor
 ·intro h;split at h
  ·assumption
  ·split at h<;>omega
 ·intro h;rw[Vh h];omega
theorem yp {q:Iv}{p:Nat}(e:af (p:Int)=true)(h:q.W)(g:q.Bt (-pw 16380) (pw 16380)):∀(f k:Nat) (w:Iv),w.W->w.Bt (-pw (16382-4*k)) (pw (16382-4*k))->p<=4*(k+f)+1->k+f<=2000->jK q p f w
 |0,k,w,b,a,i,d=>by
  unfold jK;have j:=precB_iff.1 e;rw[Cp b a.k (by omega),pD b a.k];have l:=a.lo;have o:=a.hi;have le:=bP b a.k;have r:pw (16382-4*k)<pw (16384-p):=by
   have:=bd (show(16382-4*k)+1<=16384-p by omega);rw[eE]at this;have:=bf (16382-4*k);omega
  omega
 |f+1,k,w,b,a,i,d=>by
  unfold jK;right;have m:=j8 (c:=pw (16382-4*(k+1))) b h e a g (eK (by omega)) (by
   rw[<-bK,<-bK];exact bd (by omega))
  have n:=ma aD m;rw[Int.neg_neg]at n;exact yp e h g f (k+1) _ (bZ aD) n (by omega) (by omega)
theorem ZX {x:Iv}{p:Int}{s:Nat->Rat}{n:Nat}(d:x.W)(e:n<=1000000)(h:x.Has s):(x.div (nI n n) p).Has (fun i=>s i/(n:Rat)):=by
 obtain⟨c,a,b⟩:=h;exact⟨fun i=>c i/(n:Rat),fun i=>jL d (ay (by omega)) (a i) (du (by omega)),(Null.mul b (Bnd.const (n:Rat)⁻¹)).congr fun i=>by show _=s i/(n:Rat)-c i/(n:Rat);rw[V0,V0];grind⟩
theorem P2 {y:Iv}{p:Int}:Iv.whole.add y p=Iv.whole:=by unfold Iv.add;rw[Vk (by simp[Iv.known,Iv.whole])]
theorem OZ {x:Iv}{p:Int}:x.add Iv.whole p=Iv.whole:=by
 have:Iv.whole.known=false:=rfl;unfold Iv.add;rw[this];simp
theorem Pd {y:Iv}{p:Int}:Iv.whole.div y p=Iv.whole:=by
 have:Iv.whole.known=false:=rfl;unfold Iv.div;rw[this];simp
theorem sJ {x:Iv}{s:Nat->Rat}(d:x.W)(k:x.known=true)(h:x.Has s):LBd s (fun _=>x.mag.rat):=by
 obtain⟨a,b⟩:=qu k h;have mv:=pD d k;have le:=bP d k;have u:x.hi.rat<=x.mag.rat:=rat_le.2 (by omega);have l:-x.mag.rat<=x.lo.rat:=by
  have f:x.mag.neg'.rat<=x.lo.rat:=rat_le.2 (by rw[ie];omega);rwa[UA]at f
 intro e c;obtain⟨N,g⟩:=a e c;obtain⟨M,hM⟩:=b e c;refine⟨max N M,fun n i=>?_⟩;have p:=g n (by omega);have q:=hM n (by omega);constructor<;>grind
theorem sM {p:Nat}(a:p<=16384):(bA (-(p:Int))).rat*p2 p=1:=by
 have h:=pF (n:=-(p:Int)) (by omega);have b:=dK;refine Ec (c:=sc) (by grind) ?_;have e:(bA (-(p:Int))).rat*p2 p*sc=(bA (-(p:Int))).rat*sc*p2 p:=by grind
 rw[e,cL,h,mc,WB,<-ju];exact(W2 p2 (by omega)).trans (mc 16384).symm
theorem zG {p:Nat}(b:p<=16384):0<(bA (-(p:Int))).rat:=by
 have h:=sM b;have B:=fh p;rcases(inferInstance:Decidable (0<(bA (-(p:Int))).rat))with a|a
 ·exfalso;have:=mul_nn (show 0<=-(bA (-(p:Int))).rat by grind) (Vj B);grind
 ·exact a
theorem DZ {d:Dy}{δ:Rat}(h:Bd δ d.rat):(eV d).In δ:=by
 intro _;obtain⟨a,b⟩:=h;have c:=Vj dK;show((d.neg'.val:Int):Rat)<=_/\_<=((d.val:Int):Rat);rw[ie,VQ,<-cL d];have e:=mul_nn (show 0<=d.rat-δ by grind) c;have f:=mul_nn (show 0<=d.rat+δ by grind) c;constructor<;>grind
theorem yo {q:Iv}{p:Nat}{z:Nat->Rat}{N:Nat}(C:q.W)(Y:p<=10000)(hz:∀n,N<=n->0<=z n/\4*z n<=1)(H:q.Has (fun n=>z n*z n)):∀(f j:Nat) (w s:Iv),f+j<=1000->w.W->w.Gd->s.W->s.Gd->(w.known=true\/s=Iv.whole) ->
 w.Has (fun n=>sg j*od (z n) j)->s.Has (fun n=>bJ (z n) j)->jK q p f w->((js q p f (2*j+3) w s).add (eV (bA (-(p:Int)))) p).Has (At z)
 |f,j,w,s,hf,v,gw,ws,gs,W,J,I,g=>by
  have o:=jJ (n:=-(p:Int)) (by omega) (by omega);have fin:fY w (-(p:Int))=true->(s.add (eV (bA (-(p:Int)))) p).Has (At z):=by
   intro l;rcases W with k|rfl
   ·have rp:=zG (p:=p) (by omega);have mr:w.mag.rat<=(bA (-(p:Int))).rat:=by
     refine rat_le.2 ?_;rw[pF (by omega),show(-(p:Int)+16384).toNat=16384-p by omega];exact Vu ((Cp v k (by omega)).1 l)
    obtain⟨M,hM⟩:=sJ v k J (bA (-(p:Int))).rat rp;have A:(eV (bA (-(p:Int)))).Has (fun n=>bJ (z n) n-bJ (z n) j):=by
     refine Iv.Has.of_ev (max j (max N M)) fun n u=>DZ ?_
     obtain⟨D,z4⟩:=hz n (by omega);obtain⟨i,rfl⟩:=Wb (show j<=n by omega);have r:=wX D z4 j i;have zz:z (j+i)*z (j+i)<=1/16:=by
      have:=eD (a:=z (j+i)) (b:=1/4) (c:=z (j+i)) (d:=1/4) (by grind) (by grind) (by grind) D;grind
     have Z:Bd (od (z (j+i)) j) (2*(bA (-(p:Int))).rat):=by
      obtain⟨a,b⟩:=hM (j+i) (by omega);rcases UI j with e|e<;>rw[e]at a b<;>constructor<;>grind
     obtain⟨o1,o2⟩:=Z;have on:=gp D j;have e1:od (z (j+i)) (j+1)=od (z (j+i)) j*(z (j+i)*z (j+i)):=rfl;have m:=mul_nn on (show 0<=1/16-z (j+i)*z (j+i) by grind);obtain⟨r1,r2⟩:=r;constructor<;>grind
    have a:=mF (p:=p) ws (nv o) I A;exact a.near (Near.of_eq fun n=>by show bJ (z n) n=_;grind)
   ·rw[P2];exact .whole
  cases f with
  |zero=>exact fin g
  |succ f=>
   by_cases l:fY w (-(p:Int))=true
   ·unfold js;rw[Vh l];exact fin l
   ·unfold js;rw[Vk l];have t:jK q p f (w.mul q p).neg:=by
     unfold jK at g;rcases g with h|h
     ·exact absurd h l
     ·exact h
    have E:Bnd z:=⟨1,N,fun n u=>by obtain⟨a,b⟩:=hz n u;exact⟨by grind,by grind⟩⟩
    have L:Bnd (fun n=>sg j*od (z n) j):=⟨1,N,fun n u=>by
     obtain⟨a,b⟩:=hz n u;exact iX ⟨by have:=gp a j;grind,by have:=BF a (show z n<=1 by grind) j;grind⟩ j⟩
    have B:(w.mul q p).W:=aD;have P:(w.mul q p).Gd:=ov v C;have Q:=tC B (tB (p:=p) v C J H L (E.mul E));have G:(w.mul q p).neg.Has (fun n=>sg (j+1)*od (z n) (j+1)):=Q.near (Near.of_eq fun n=>by simp only[sg,od];grind);have K:(w.mul q p).neg.W:=bZ B;have F:=xU B P;have S:=ZX (p:=p) (n:=2*j+3) K (by omega) G;have T:=mF (p:=p) ws aI I S;have O:((2*j+3:Nat):Rat)=((2*(j+1)+1:Nat):Rat):=by rw[show 2*j+3=2*(j+1)+1 by omega]
    have U:(s.add ((w.mul q p).neg.div (nI ((2*j+3:Nat):Int) ((2*j+3:Nat):Int)) p) p).Has (fun n=>bJ (z n) (j+1)):=T.near (Near.of_eq fun n=>by
     show bJ (z n) j+jp (z n) (j+1)=_;unfold jp lt;rw[O,V0,V0];grind)
    have y:(w.mul q p).neg.known=true\/s.add ((w.mul q p).neg.div (nI ((2*j+3:Nat):Int) ((2*j+3:Nat):Int)) p) p=Iv.whole:=by
     rcases F with h|h
     ·right;rw[h,Pd,OZ]
     ·exact .inl h
    have x:(s.add ((w.mul q p).neg.div (nI ((2*j+3:Nat):Int) ((2*j+3:Nat):Int)) p) p).Gd:=S8 ws aI;rw[show 2*j+3+2=2*(j+1)+3 by omega];exact yo C Y hz H f (j+1) _ _ (by omega) K F aH x y G U t
theorem zH {y:Iv}{p:Nat}{z:Nat->Rat}{N:Nat}(e:y.W)(d:y.known=true)(i:p<=10000)(hz:∀n,N<=n->0<=z n/\4*z n<=1)(c:y.Has z)(k:jK (y.sq p) p 1000 y):(dm y p).Has (At z):=by
 have f:Bnd z:=⟨1,N,fun n h=>by obtain⟨a,b⟩:=hz n h;exact⟨by grind,by grind⟩⟩
 have j:=v3 (p:=p) e c f;have g:∀z,bJ z 0=z:=fun z=>by
  show sg 0*lt z 0=_;unfold lt;simp only[od,sg];rw[show((2*0+1:Nat):Rat)=1 from rfl];grind
 exact yo (fe (p:=p)) i hz j 1000 0 y y (by omega) e (.inr d) e (.inr d) (.inl d) (c.near (Near.of_eq fun n=>by simp only[sg,od];grind)) (c.near (Near.of_eq fun n=>by rw[g])) k
theorem uo {y:Iv}{p:Int}:(dm y p).W:=aH
def dZ (m:Int)(p:Nat):Iv:=(nI 1 1).div (nI m m) p
theorem n5 {m:Nat}{p:Nat}(o:4<=m)(f:m<=1000)(g:af (p:Int)=true):(dZ m p).Bt (-pw 16382) (pw 16382):=by
 have c:=bo (k:=1) (by decide);have h:=bo (k:=(m:Int)) (by omega);have d:=bf 16384;have b:pw 16384=4*pw 16382:=by rw[show 16384=16382+1+1 from rfl,eE,eE];omega
 rw[WN]at c;have a:(nI 1 1).Bt (-pw 16384) (pw 16384):=c.mono (by omega) (by omega);have i:(nI 1 1).W:=ay (by decide);have j:(nI (m:Int) (m:Int)).W:=ay (by omega);refine lg (m:=(m:Int)*pw 16384) i j g a h (Xl (by omega) d) (eK (by omega)) (Vu (bf _)) ?_;have e:4*pw 16384<=(m:Int)*pw 16384:=VB (by omega) (Vu d);have l:pw 16382*(4*pw 16384)<=pw 16382*((m:Int)*pw 16384):=V1 e (Vu (bf _));have n:pw 16384*pw 16384=pw 16382*(4*pw 16384):=by
  rw[Int.mul_left_comm,<-WD,<-b]
 omega
theorem wo {m p:Nat}(a:m<=1000):(dZ m p).In (1/(m:Rat)):=jL (p:=(p:Int)) (ay (k:=1) (by decide)) (ay (k:=(m:Int)) (by omega)) mC (du (by omega))
theorem NT {y:Iv}{p:Nat}(b:y.W)(a:af (p:Int)=true)(h:y.Bt (-pw 16382) (pw 16382)):(y.sq p).Bt (-pw 16380) (pw 16380):=
 kS b a h (eK (by omega)) (by rw[<-bK,<-bK];exact bd (by omega))
theorem Cw {y:Iv}{p:Nat}(b:y.W)(a:af (p:Int)=true)(h:y.Bt (-pw 16382) (pw 16382)):jK (y.sq p) p 1000 y:=by
 have c:=precB_iff.1 a;exact yp a fe (NT b a h) 1000 0 y b h (by omega) (by omega)
def fq (p:Nat):Iv:=((nI 16 16).mul (dm (dZ 5 (p+20)) (p+20:Nat)) (p+20:Nat)).add ((nI 4 4).mul (dm (dZ 239 (p+20)) (p+20:Nat)) (p+20:Nat)).neg (p+20:Nat)
theorem jI {p:Nat}:(fq p).W:=aH
theorem yl {p:Nat}(q:8<=p)(r:p<=492):(fq p).Has pis:=by
 have e:af ((p+20:Nat):Int)=true:=precB_iff.2 (by omega);have h:(dZ 5 (p+20)).W:=aI;have b:(dZ 239 (p+20)).W:=aI;have f:=n5 (m:=5) (p:=p+20) (by omega) (by omega) e;have a:=n5 (m:=239) (p:=p+20) (by omega) (by omega) e;have i:=zH (p:=p+20) (z:=fun _=>1/5) (N:=0) h f.k (by omega) (fun _ _=>⟨by grind,by grind⟩) (wo (m:=5) (p:=p+20) (by omega)).has (Cw h e f);have d:=zH (p:=p+20) (z:=fun _=>1/239) (N:=0) b a.k (by omega) (fun _ _=>⟨by grind,by grind⟩) (wo (m:=239) (p:=p+20) (by omega)).has (Cw b e a);have g:∀c:Rat,0<=c->4*c<=1->Bnd (At fun _=>c):=fun c o c4=>rd (N:=0) fun _ _=>⟨by grind,by grind⟩
 have j:=tB (p:=(p+20:Nat)) (ay (k:=16) (by decide)) uo (j9 16).has i (Bnd.const _) (g _ (by grind) (by grind));have l:=tB (p:=(p+20:Nat)) (ay (k:=4) (by decide)) uo (j9 4).has d (Bnd.const _) (g _ (by grind) (by grind));have s:=yq (p:=(p+20:Nat)) aD aD j l;refine s.near (Near.of_eq fun n=>?_);show 2*(2*(4*bJ (1/5) n-bJ (1/239) n))=16*bJ (1/5) n-4*bJ (1/239) n;grind
theorem QA (p:Nat)(N:8<=p)(O:p<=492):CQ prog Zp [.int .i64 p] (fq p).v:=by
 refine ap rfl fun H=>?_
 have h:af ((p+20:Nat):Int)=true:=precB_iff.2 (by omega);have x:IntKind.i64.wrap ((p:Int)+20)=((p+20:Nat):Int):=by rw[wrap_i64]<;>omega
 have r:=kG 1 (by omega) (by omega);have z:=kG 5 (by omega) (by omega);have f:=kG 239 (by omega) (by omega);have j:=kG 16 (by omega) (by omega);have i4:=kG 4 (by omega) (by omega);have t:(nI 1 1).W:=ay (by decide);have C:(nI 5 5).W:=ay (by decide);have g:(nI 239 239).W:=ay (by decide);have l:(nI 16 16).W:=ay (by decide);have B:(nI 4 4).W:=ay (by decide);have o:=lD (nI 1 1) (nI 5 5) (p+20:Nat) t C;have b:=lD (nI 1 1) (nI 239 239) (p+20:Nat) t g;have i:=n5 (m:=5) (p:=p+20) (by omega) (by omega) h;have a:=n5 (m:=239) (p:=p+20) (by omega) (by omega) h;have f5:(dZ 5 (p+20)).W:=aI;have f239:(dZ 239 (p+20)).W:=aI;have v:=yn (dZ 5 (p+20)) (p+20:Nat) f5 (.inr i.k) (by omega) (by omega) (Cw f5 h i);have d:=yn (dZ 239 (p+20)) (p+20:Nat) f239 (.inr a.k) (by omega) (by omega) (Cw f239 h a);have k:=nf (nI 16 16) (dm (dZ 5 (p+20)) (p+20:Nat)) (p+20:Nat) l uo
 have A:=nf (nI 4 4) (dm (dZ 239 (p+20)) (p+20:Nat)) (p+20:Nat) B uo;have s:=Ui ((nI 16 16).mul (dm (dZ 5 (p+20)) (p+20:Nat)) (p+20:Nat)) ((nI 4 4).mul (dm (dZ 239 (p+20)) (p+20:Nat)) (p+20:Nat)) (p+20:Nat) aD aD;have e:fq p=((nI 16 16).mul (dm (dZ 5 (p+20)) (p+20:Nat)) (p+20:Nat)).add ((nI 4 4).mul (dm (dZ 239 (p+20)) (p+20:Nat)) (p+20:Nat)).neg (p+20:Nat):=rfl;rw[e];have q:(nI 1 1).div (nI 5 5) (p+20:Nat)=dZ 5 (p+20):=rfl;have c:(nI 1 1).div (nI 239 239) (p+20:Nat)=dZ 239 (p+20):=rfl;rw[q]at o;rw[c]at b;clear i a f5 f239 e q c;generalize ((nI 16 16).mul (dm (dZ 5 (p+20)) (p+20:Nat)) (p+20:Nat)).add ((nI 4 4).mul (dm (dZ 239 (p+20)) (p+20:Nat)) (p+20:Nat)).neg (p+20:Nat)=R at *
 generalize (nI 16 16).mul (dm (dZ 5 (p+20)) (p+20:Nat)) (p+20:Nat)=I at *
 generalize (nI 4 4).mul (dm (dZ 239 (p+20)) (p+20:Nat)) (p+20:Nat)=J at *
 generalize dm (dZ 5 (p+20)) (p+20:Nat)=D at *
 generalize dm (dZ 239 (p+20)) (p+20:Nat)=E at *
 generalize dZ 5 (p+20)=F at *
 generalize dZ 239 (p+20)=G at *
 generalize nI 1 1=K at *
 generalize nI 5 5=M at *
 generalize nI 239 239=n at *
 generalize nI 16 16=u at *
 generalize nI 4 4=L at *
 have⟨w,y⟩:∃w,w=p+20:=⟨_,rfl⟩
 rw[<-y]at *
 simp[x];refine zq r ?_;simp;refine zq z ?_;simp;refine zq o ?_;simp;refine zq v ?_;simp;refine zq r ?_;simp;refine zq f ?_;simp;refine zq b ?_;simp;refine zq d ?_;simp;refine zq j ?_;simp;refine zq k ?_;simp;refine zq i4 ?_;simp;refine zq A ?_;simp;refine zq s ?_;simp[lim]
theorem qe {d:Dy}{c:Nat}(ok:d.Ok)(i:d.m≠[])(h:pw c∣d.val):(c:Int)-16384<=d.e:=by
 have m:=ok.elo;have n:=ok.odd i;have j:d.val.natAbs=aa d.m*2^(d.e+16384).toNat:=pX d;have f:2^c∣aa d.m*2^(d.e+16384).toNat:=by
  rw[<-j];exact Int.natAbs_dvd_natAbs.2 h
 rcases V5 d.e ((c:Int)-16384)with b|b
 ·exfalso;have⟨k,g⟩:∃k:Nat,k=(d.e+16384).toNat:=⟨_,rfl⟩
  rw[<-g]at f;have a:k+1<=c:=by omega
  have e:2^(k+1)∣aa d.m*2^k:=Nat.dvd_trans (Nat.pow_dvd_pow 2 a) f;rw[VH,VE (2^k)]at e;have l:=Nat.dvd_of_mul_dvd_mul_right (Vl k) e;omega
 ·exact b
theorem v9 {d:Dy}{t:Nat}(ok:d.Ok)(e:-pw (16384+t)<=d.val)(f:d.val<=pw (16384+t)):d.top<=(t:Int)+1:=by
 by_cases a:d.m=[]
 ·unfold Dy.top;rw[Vh a];omega
 ·obtain⟨c,_⟩:=ok.absN_bounds a;have h:d.val.natAbs=d.absN:=pX d;have i:=ok.top_pos a;have g:pw (d.top+16383).toNat<=pw (16384+t):=by
   have:pw (d.top+16383).toNat<=(d.absN:Int):=by unfold pw;exact Int.ofNat_le.2 c
   omega
  rcases V5 ((t:Int)+1) d.top with b|b
  ·exfalso;have:=pw_lt_iff.2 (show 16384+t<(d.top+16383).toNat by omega);omega
  ·exact b
theorem Mm {a b:Dy}(e:a.Ok)(f:b.Ok)(g:a.m≠[]->-2000<=a.e)(h:b.m≠[]->-2000<=b.e)(i:a.top<=1000)(tb:b.top<=1000):(a.sum b).Ok:=by
 by_cases c:a.m=[]
 ·unfold Dy.sum;rw[Vh c];exact f
 ·by_cases d:b.m=[]
  ·unfold Dy.sum;rw[Vk c,Vh d];exact e
  ·exact Ml e f (g c) (h d) i tb
structure Fine (x:Iv)(b t:Nat):Prop where
 k:x.known=true
 dl:pw (16384-b)∣x.lo.val
 dh:pw (16384-b)∣x.hi.val
 lo:-pw (16384+t)<=x.lo.val
 hi:x.hi.val<=pw (16384+t)
theorem Fine.sum {x:Iv}{b t:Nat}(w:x.W)(h:Fine x b t)(g:b<=2000)(i:t<=900):(x.hi.sum x.lo.neg').Ok:=by
 obtain⟨c,d⟩:=bg w h.k;have le:=bP w h.k;have e:=h.lo;have f:=h.hi;have j:=v9 c e (by omega);have k:=v9 d (by omega) f;refine Mm d (gh c) (fun a=>?_) (fun a=>?_) (by omega) (by rw[neg'_same.2.2];omega)
 ·have:=qe d a h.dh;omega
 ·rw[neg'_same.2.1];have:=qe c (show x.lo.m≠[] from a) h.dl;omega
section
variable {p : Int} {x y : Iv}
end
end Go.Abs.W
namespace Go.Abs.W
