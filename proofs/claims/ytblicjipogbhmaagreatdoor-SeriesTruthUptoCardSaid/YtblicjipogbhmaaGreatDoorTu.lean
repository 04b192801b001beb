import Derived.Test.YtblicjipogbhmaaGreatDoorTt
import Derived.Test.YtblicjipogbhmaaGreatDoorCb
import Derived.Test.YtblicjipogbhmaaGreatDoorWg
import Derived.Test.YtblicjipogbhmaaGreatDoorSe
namespace Go.Abs.W
set_option maxHeartbeats 4000000
set_option maxRecDepth 20000 in
theorem Rl (a:List Iv)(p:Int)(Z:SW a)(T:dq [a]=true){S C:Iv}(wS:S.W)(wC:C.W)(cs:CQ prog YC [(aK a 0).v,.int .i64 p] S.v)(K:CQ prog YB [(aK a 0).v,.int .i64 p] C.v) :
 CQ prog q1k [aC a,.int .i64 p] (.tup [aC (bN S C a p a.length).1,aC (bN S C a p a.length).2]):=by
 have c:=lH [a] (by simp);simp[cY]at c;refine ap rfl fun H=>?_
 simp[aC];refine bt rfl rfl (H1:=H++[some ⟨1,[aC a],false,true⟩,some ⟨1,[.int .i64 p],false,true⟩,some ⟨1,[aC a],true,false⟩]) (vs:=[.sl [aC a]]) (by simp[prep,ah,aF,aC];rfl) c ?_
 ·obtain⟨h1,h2⟩:=are1.1 T;have M:a.length*88<=281474976710656:=by omega
  have O:a.length<=9223372036854775807:=by omega
  have e:0<a.length:=by omega
  rw[eJ e]at cs K;have r:(bN S C a p 1).1=[S]:=rfl;have t:(bN S C a p 1).2=[C]:=rfl;simp[T,M,O,aC,e];refine zq cs ?_;simp[fP,M,O,e];refine zq K ?_;simp[fP];have⟨n,hn⟩:∃n,n+1=a.length:=⟨a.length-1,by omega⟩
  refine aJ (fun i E g=>E 2=.ptr H.length 0 0/\E 3=.ptr (H.length+1) 0 0/\∃d,E 6=.ptr d 0 0/\H.length+2<=d/\g[d]?=some (some ⟨1,[.int .i64 ((i+1:Nat):Int)],false,true⟩) /\
   ∃l m,E 4=.ref l 7 0 (i+1)/\E 5=.ref m 7 0 (i+1)/\l≠m/\Out (H++[some ⟨1,[aC a],false,true⟩,some ⟨1,[.int .i64 p],false,true⟩]) g (.ref l 7 0 (i+1)) 7 ((bN S C a p (i+1)).1.map Iv.v) /\
    Out (H++[some ⟨1,[aC a],false,true⟩,some ⟨1,[.int .i64 p],false,true⟩]) g (.ref m 7 0 (i+1)) 7 ((bN S C a p (i+1)).2.map Iv.v)) n ?_ ?_
  ·simp[aC];refine⟨⟨by simp,.inr ⟨H.length+5,[S.v],by simp,by simp[r],by simp,by simp[r],by simp[r]⟩⟩,⟨by simp,.inr ⟨H.length+8,[C.v],by simp,by simp[t],by simp,by simp[t],by simp[t]⟩⟩⟩
  ·rintro i E g hi ⟨u,L,d,z,hkb,h,l,m,v,w,j,k,D⟩;have I:=cy (b:=H.length) (x:=some ⟨1,[aC a],false,true⟩) k.pre (by simp);have Y:=cy (b:=H.length+1) (x:=some ⟨1,[.int .i64 p],false,true⟩) k.pre (by simp);have W:=cy (VJ g) h;have f:=I.1;simp only[aC]at f;obtain⟨l1,l2⟩:=pI (s:=S) (c:=C) (a:=a) (p:=p) (i+1);rcases Vm i n with B|hge
   ·have f3:IntKind.i64.wrap ((i:Int)+1+1)=(i:Int)+1+1:=by rw[wrap_i64]<;>omega
    have f5:(i:Int)+1<a.length:=by omega
    obtain⟨w1,w2⟩:=fo (p:=p) (a:=a) wS wC (i+1);obtain⟨blk,g1,g2⟩:=nQ D l2;obtain⟨J,g3,g4⟩:=nQ k l1;have q1:=wV I.1 Y.1 g1 h Z.2 w2 (by omega) (by omega) g2;have q2:=wV I.1 Y.1 g3 h Z.2 w1 (by omega) (by omega) g4;have s1:(bN S C a p (i+1+1)).1=(bN S C a p (i+1)).1++[fJ a (bN S C a p (i+1)).2 p i]:=rfl;have s2:(bN S C a p (i+1+1)).2=(bN S C a p (i+1)).2++[(fJ a (bN S C a p (i+1)).1 p i).neg]:=rfl;have wP:(fJ a (bN S C a p (i+1)).1 p i).W:=fx;generalize fJ a (bN S C a p (i+1)).2 p i=P at *
    generalize fJ a (bN S C a p (i+1)).1 p i=Q at *
    have cn:=wQ Q wP;generalize Q.neg=N at *
    simp[Jb,u,L,w,z,f,W.1,f5,V.isCell];refine bW (args:=[.ref m 7 0 (i+1),.ptr d 0 0,.ptr (H.length+1) 0 0,.ptr H.length 0 0]) rfl rfl rfl q1 ?_;simp[v];refine bW (args:=[.ref l 7 0 (i+1),.ptr d 0 0,.ptr (H.length+1) 0 0,.ptr H.length 0 0]) rfl rfl rfl q2 ?_;simp;refine zq cn ?_;obtain⟨X1,o,o1,o2,t1,t2,U⟩:=DM (k.grow [some ⟨7,[P.v],false,true⟩,some ⟨7,[N.v],false,true⟩]) (D.grow [some ⟨7,[P.v],false,true⟩,some ⟨7,[N.v],false,true⟩]) j P (by omega) (y:=.sl [P.v]) rfl;have F:=U (g.length+1) ⟨7,[N.v],false,true⟩ (by simp) rfl;have nk:=U d _ (W.2 _) rfl;obtain⟨X2,q,o3,o4,t3,t4,k2⟩:=DM o2 o1 (by omega) N (by omega) (y:=.sl [N.v]) rfl;have G:=k2 d _ nk rfl;simp only[Iv.v]at o q F;simp at o q F t1 t2 t3 t4;simp[u,L,v,w,z,o,F,Ni,Pl,Nh,q,G];have lk:=(Vi.1 h).1;refine⟨B,by omega,f3,by omega,?_,?_⟩
    ·rw[f3,s1];have:=o4.grow [some ⟨1,[.int .i64 ((i:Int)+1+1)],false,true⟩];simpa using this
    ·rw[f3,s2];have:=o3.grow [some ⟨1,[.int .i64 ((i:Int)+1+1)],false,true⟩];simpa using this
   ·have A:i=n:=by omega
    subst A;have f5:¬(i:Int)+1<a.length:=by omega
    have:=yu (H1:=H) k D j (Wl _ _);simp[Jb,u,v,w,z,h,f5,f];simp at this;rw[<-hn];exact this
def fQ (d:Dy)(c:Bool)(p:Int):Iv:=if 100<d.top then unitI else((jv d c p.toNat).meet unitI).getD unitI
theorem Od {d:Dy}(ok:d.Ok):((Iv.pt d).wid 64).2=0/\¬0<=((Iv.pt d).wid 64).1.cmp (nD 7):=by
 have e:(Iv.pt d).wid 64=aV d d.neg' 64 true:=by unfold Iv.wid;rw[lB ok,Vh (by decide)];rfl
 have up:=mJ (p:=64) ok (gh ok) (by decide);have z:d.val+d.neg'.val=0:=by rw[ie];omega
 rw[z]at up;have c:aE (64:Int).toNat 0:=by
  have:=nh (p:=(64:Int).toNat) (a:=0) (b:=1) (k:=0) (by decide) (by decide) (by decide);rwa[WV]at this
 obtain⟨f,h⟩:=up.atu c (VL _);have o:(aV d d.neg' 64 true).1.Ok:=rAdd_ok;have g:(nD 7).val=7*pw 16384:=iP;have q:=bf 16384;rw[e];refine⟨f,?_⟩;rw[gB o nD7,Bn,g];omega
theorem Pf {x:Iv}(k:x.known=true):x.hull x=x:=by
 obtain⟨_,a⟩:=gO k;have e:x.hull x=⟨x.lo,x.hi,false⟩:=by
  unfold Iv.hull Dy.lo2 Dy.hi2;simp[k]
 rw[e,<-a]
theorem w9 (d:Dy)(c:Bool)(p:Int)(ok:d.Ok)(g:af p=true):CQ prog q87 [(Iv.pt d).v,.bool c,.int .i64 p] (fQ d c p).v:=by
 refine ap rfl fun H=>?_
 have w:=dX ok.w;have k:=lB ok;obtain⟨v,_⟩:=gO k;obtain⟨D,p2⟩:=xX g;have l:=R7 p;have i:=uS (Iv.pt d) w;have f:=lf d ok.w;rw[Vh ok.valid]at f;have m:=Ov (Iv.pt d) 64 w;have n:=rQ 7 (by omega) (by omega);have o:=lj ((Iv.pt d).wid 64).1 (nD 7) ux nD7.w;obtain⟨s,r⟩:=Od ok;have u:=Mc;have b:=lj d d ok.w ok.w;rw[show d.cmp d=0 by rw[gB ok ok,YL]]at b;unfold fQ;rw[v]at i;generalize (Iv.pt d).wid 64=x at *
 generalize x.1.cmp (nD 7)=z at *
 generalize nD 7=C at *
 simp only[Iv.pt,Iv.v]at *
 by_cases e:100<d.top
 ·rw[Vh e];generalize unitI=U at *
  simp;refine zq l ?_;simp[g];refine zq i ?_;simp;refine zq f ?_;simp[e];refine zq u ?_;simp[lim]
 rw[Vk e];have j:=Ob d c p.toNat ok (by omega) (by omega);have q:(p.toNat:Int)=p:=by omega
 rw[q]at j;have t:=(AZ (c:=c) ok g (by omega)).1.k;have w8:(jv d c p.toNat).W:=zE ok.w;generalize jv d c p.toNat=A at *
 have a:=Na A A w8 w8;rw[Pf t]at a;have h:=zc A unitI w8 tq;generalize unitI=U at *
 simp;refine zq l ?_;simp[g];refine zq i ?_;simp;refine zq f ?_;simp[e];refine zq f ?_;simp[e];refine zq m ?_;simp[s];refine zq n ?_;simp;refine zq o ?_;simp[r];refine zq j ?_;simp;refine zq j ?_;simp;refine zq a ?_;simp;refine zq u ?_;simp;refine zq h ?_;cases B:A.meet U with
 |none=>
  simp[eo];refine zq u ?_;simp[lim]
 |some y=>
  simp[eo];refine zq b ?_;simp[lim]
theorem Sx (d:Dy)(p:Int)(ok:d.Ok)(a:af p=true):CQ prog YC [(Iv.pt d).v,.int .i64 p] (fQ d false p).v:=by
 refine ap rfl fun H=>?_
 have c:=w9 d false p ok a;generalize fQ d false p=Y at *
 simp;refine zq c ?_;simp[lim]
theorem Sn (d:Dy)(p:Int)(ok:d.Ok)(a:af p=true):CQ prog YB [(Iv.pt d).v,.int .i64 p] (fQ d true p).v:=by
 refine ap rfl fun H=>?_
 have c:=w9 d true p ok a;generalize fQ d true p=Y at *
 simp;refine zq c ?_;simp[lim]
theorem Nn {x y z:Iv}{s:Nat->Rat}(f:x.W)(g:y.W)(b:x.known=true)(c:y.known=true)(h:x.meet y=some z)(p:x.Has s)(q:y.Has s):z.known=true/\z.Has s:=by
 obtain⟨w,i⟩:=gO b;obtain⟨A,j⟩:=gO c;obtain⟨r,t⟩:=bg f b;obtain⟨u,v⟩:=bg g c;obtain⟨k,l⟩:=qu b p;obtain⟨m,n⟩:=qu c q;have B:=Iv.W.meet f g h;unfold Iv.meet at h;simp only[w,A,i,j,Bool.and_self,Wm,Vv,V8]at h;split at h
 ·cases h
 ·rename_i o;injection h with h
  have d:=tl r u;have e:=lR t v;rw[gB d e]at o;subst h;have a:(x.lo.hi2 y.lo).val<=(x.hi.lo2 y.hi).val:=by
   have:=sr (x:=(x.lo.hi2 y.lo).val) (y:=(x.hi.lo2 y.hi).val);omega
  refine⟨fv d e a,sW B fun _=>⟨?_,?_⟩⟩
  ·show SLe (fun _=>(x.lo.hi2 y.lo).rat) s;unfold Dy.hi2;split;exact k;exact m
  ·show SLe s (fun _=>(x.hi.lo2 y.hi).rat);unfold Dy.lo2;split;exact l;exact n
theorem tF {d:Dy}{c:Bool}{p:Int}(ok:d.Ok)(g:af p=true):(fQ d c p).W/\(fQ d c p).known=true/\(fQ d c p).Has (Fn c (cK d.rat)):=by
 have e:unitI.known=true:=by decide +kernel
 have a:=Ol (c:=c) (vD d.rat);unfold fQ;split
 ·exact⟨tq,e,a⟩
 ·obtain⟨b,h⟩:=AZ (c:=c) ok g (by omega);have w:(jv d c p.toNat).W:=zE ok.w;cases f:(jv d c p.toNat).meet unitI with
  |none=>exact⟨tq,e,a⟩
  |some y=>exact⟨Iv.W.meet w tq f,Nn w tq b.k e f h a⟩
end Go.Abs.W
namespace Go.Abs.W
set_option maxRecDepth 20000
theorem iF {S:AProg}{n0:Nat}{Q:AX->aA->ab->Prop}{c:AC}{K:List Fr}{E:aA}{H:ab}
 (h:WK S n0 c [] E H (AX.thn (fun a b=>WK S n0 (.loop c) K a b Q) (fun x a b=>WP S n0 Q K x a b))):WK S n0 (.loop c) K E H Q:=by
 obtain⟨x,a,b,e,q⟩:=h;cases x with
 |normal=>
  obtain⟨y,d,f,g,i⟩:=q;exact⟨y,d,f,.loopN e g,i⟩
 |exit id=>exact⟨_,_,_,.loopX e (by simp),q⟩
 |ret=>exact⟨_,_,_,.loopX e (by simp),q⟩
@[simp] theorem qhT {n0:Nat}{E:aA}{H:ab}{x:X}:aS n0 (.slen x) E H=match am E x with
 | .str s=>some (.int .i64 s.size,H)
 |_=>none:=rfl
@[simp] theorem qgA {s:ByteArray}:(V.str s).cells=[.str s]:=rfl
@[simp] theorem qhM {s:ByteArray}:(V.str s).isTup=false:=rfl
@[simp] theorem qgD {s:ByteArray}:(V.str s).cellPure=true:=rfl
@[simp] theorem qfU {H:ab}{s:ByteArray}:d6 H (.str s)=some (.str s,H):=rfl
theorem bX : (ByteArray.mk #[120]).toList=[120]:=by decide +kernel
theorem b0 : (ByteArray.mk #[]).toList=[]:=by decide +kernel
theorem sX : (ByteArray.mk #[120]).size=1:=rfl
theorem gX (h:0<(ByteArray.mk #[120]).size):((ByteArray.mk #[120])[0]'h).toNat=120:=rfl
theorem q58 : CQ prog qwb [.int .u8 120] (.bool true):=by
 refine ap rfl fun H=>?_
 simp
theorem Ls : CQ prog q16 [.int .u8 120] (.bool true):=by
 refine ap rfl fun H=>?_
 simp;refine zq q58 ?_;simp
theorem On : CQ prog qza [.str ⟨#[120]⟩] (.bool true):=by
 refine ap rfl fun H=>?_
 have a:IntKind.i64.wrap 1=1:=by decide
 simp;refine iF ?_;simp[Zy,sX,gX];refine zq Ls ?_;simp[a];refine iF ?_;simp[sX,gX,bX,b0];refine zq q58 ?_;simp
theorem Tk : CQ prog q4i [.str ⟨#[120]⟩] (.tup [.int .i64 1,.int .i64 0]):=by
 refine ap rfl fun H=>?_
 simp;refine zq On ?_;simp[sX]
def resW : List ByteArray:=[⟨#[115,116,97,116,101]⟩,⟨#[112,97,114,97,109]⟩,⟨#[105,110]⟩,⟨#[109,111,100,101]⟩,⟨#[119,104,101,110]⟩,⟨#[114,105,115,101,115]⟩,⟨#[102,97,108,108,115]⟩,⟨#[103,111,116,111]⟩,⟨#[119,105,116,104]⟩,⟨#[116,105,109,101]⟩,⟨#[101,120,112]⟩,⟨#[108,111,103]⟩,⟨#[115,105,110]⟩,⟨#[99,111,115]⟩,⟨#[115,113,114,116]⟩]
theorem TO : ∀i:Nat,i<15->∃w,resW[i]?=some w/\(w.toList == [120])=false:=by
 have h:∀i:Fin 15,((resW[i.val]?).map fun w=>w.toList == [120])=some false:=by decide +kernel
 intro i hi;have:=h ⟨i,hi⟩;obtain⟨w,a,b⟩:=VV.1 this;exact⟨w,a,b⟩
theorem Rv : CQ prog qwa [] (.sl (resW.map V.str)):=by
 refine ap rfl fun H=>?_
 simp[resW]
theorem Pg : CQ prog qxr [.str ⟨#[120]⟩] (.bool false):=by
 refine ap rfl fun H=>?_
 have g:(resW.map V.str).length=15:=rfl;have l:∀i:Nat,i<15->∃w,(resW.map V.str)[i]?=some (.str w)/\(w.toList == [120])=false:=fun i hi=>by
  obtain⟨w,b,c⟩:=TO i hi;exact⟨w,by rw[WE,b];rfl,c⟩
 have rs:=Rv;generalize resW.map V.str=L at *
 simp;refine zq rs ?_;simp;refine aJ (fun i E d=>d=H/\E 0=.str ⟨#[120]⟩/\E 3=.sl L/\E 4=.int .i64 (i:Int)) 15 ?_ ?_
 ·simp
 ·rintro i E d hi ⟨rfl,j,e,f⟩;rcases Vm i 15 with h|h
  ·obtain⟨w,b,c⟩:=l i h;have a:(i:Int)<15:=by omega
   have k:IntKind.i64.wrap ((i:Int)+1)=(i:Int)+1:=by rw[wrap_i64]<;>omega
   simp[Jt,j,e,f,g,a,k,b,bX,c];exact h
  ·have a:¬(i:Int)<15:=by omega
   simp[Jt,e,f,g,a]
theorem Ty : CQ prog q4j [.str ⟨#[120]⟩] (.bool true):=by
 refine ap rfl fun H=>?_
 simp;refine zq Tk ?_;simp;refine zq Pg ?_;simp
abbrev jq : V:=.agg [.int .i64 2,.int .i64 0,.int .i64 0,.str ⟨#[120]⟩,.int .i64 0,.sl []]
abbrev gE (k:Int):V:=.agg [.int .i64 k,.int .i64 0,.int .i64 0,.str ⟨#[]⟩,.int .i64 0,.sl [jq]]
def ib (k:Int):Prop:=k=9\/k=10\/k=11\/k=12
theorem Td : CQ prog Za [.int .i64 2] (.int .i64 0):=by
 refine ap rfl fun H=>?_
 simp
theorem Tc {k:Int}(a:ib k):CQ prog Za [.int .i64 k] (.int .i64 1):=by
 refine ap rfl fun H=>?_
 rcases a with rfl|rfl|rfl|rfl<;>simp
theorem T9 : CQ prog Zc [jq] (.bool true):=by
 refine ap rfl fun H=>?_
 simp;refine zq Td ?_;simp;refine zq Ty ?_;simp
theorem T8 {k:Int}(a:ib k):CQ prog Zc [gE k] (.bool true):=by
 refine ap rfl fun H=>?_
 have b:¬k=1:=by unfold ib at a;omega
 have c:¬k=2:=by unfold ib at a;omega
 simp;refine ak rfl rfl rfl (Tc a) ?_;simp[b,c,b0]
theorem Kr : CQ prog Zi [jq,.int .i64 19] (.int .i64 1):=by
 refine ap rfl fun H=>?_
 simp;refine zq T9 ?_;simp;refine iF ?_;simp[I7]
theorem Kq {k:Int}(a:ib k):CQ prog Zi [gE k,.int .i64 20] (.int .i64 2):=by
 refine ap rfl fun H=>?_
 have b:IntKind.i64.wrap 19=19:=by decide
 have c:IntKind.i64.wrap 2=2:=by decide
 have d:IntKind.i64.wrap 1=1:=by decide
 simp;refine ak rfl rfl rfl (T8 a) ?_;simp;refine iF ?_;simp[I7,b];refine zq Kr ?_;simp[c,d];refine iF ?_;simp
theorem Mf {k:Int}(a:ib k):CQ prog q14 [gE k] (.bool true):=by
 refine ap rfl fun H=>?_
 simp;refine ak rfl rfl rfl (Kq a) ?_;simp
theorem tv : CQ prog RX [.sl [.str ⟨#[120]⟩],.str ⟨#[120]⟩] (.int .i64 0):=by
 refine ap rfl fun H=>?_
 simp;refine iF ?_;simp[Zn]
theorem PB : CQ prog q12 [.sl [.str ⟨#[120]⟩]] (.bool true):=by
 refine ap rfl fun H=>?_
 have a:IntKind.i64.wrap 1=1:=by decide
 simp;refine iF ?_;simp[Zw];refine zq tv ?_;simp[a];refine iF ?_;simp
theorem Nb : CQ prog qy9 [.sl [],.str ⟨#[120]⟩] (.sl [.str ⟨#[120]⟩]):=by
 refine ap rfl fun H=>?_
 simp;refine iF ?_;simp[Zz,fP,jo]
theorem S2 : CQ prog Zb [jq] (.sl [jq]):=by
 refine ap rfl fun H=>?_
 simp;refine iF ?_;simp[IK]
theorem S0 (k:Int):CQ prog Zb [gE k] (.sl [gE k,jq]):=by
 refine ap rfl fun H=>?_
 have a:IntKind.i64.wrap 1=1:=by decide
 simp;refine iF ?_;simp[IK];refine zq S2 ?_;simp[fP,jo,a];refine iF ?_;simp
theorem PA {k:Int}(a:ib k):CQ prog q15 [gE k] (.sl [.str ⟨#[120]⟩]):=by
 refine ap rfl fun H=>?_
 have c:IntKind.i64.wrap 1=1:=by decide
 have d:IntKind.i64.wrap 2=2:=by decide
 have b:¬k=2:=by unfold ib at a;omega
 simp;refine ak rfl rfl rfl (S0 k) ?_;simp;refine iF ?_;simp[Zu,b,c];refine iF ?_;simp;refine zq Nb ?_;simp[d];refine iF ?_;simp
theorem Lw {k:Int}(a:ib k):CQ prog q13 [gE k,.sl [.str ⟨#[120]⟩]] (.bool true):=by
 refine ap rfl fun H=>?_
 have b:IntKind.i64.wrap 1=1:=by decide
 simp;refine ak rfl rfl rfl (Mf a) ?_;simp;refine ak rfl rfl rfl (PA a) ?_;simp;refine iF ?_;simp[Zv];refine zq tv ?_;simp[b];refine iF ?_;simp
end Go.Abs.W
namespace Go.Abs.W
set_option maxRecDepth 20000
theorem LK (d:Dy)(ok:d.Ok)(f:d.top<=20):CQ prog q8d [d.v] (ey false d).v:=by
 refine ap rfl fun H=>?_
 have b:=kG 0 (by omega) (by omega);have c:=Ds d ok;have e:=q5o d ok f;have t:¬30<d.top:=by omega
 unfold ey rF;by_cases a:d.m=[]
 ·rw[Vh a];have l:d.m.length=0:=by rw[a];rfl
  generalize nI 0 0=Z at *
  simp[lim,l];refine zq b ?_;simp[lim]
 ·rw[Vk a];have l:¬d.m.length=0:=fun h=>a (List.length_eq_zero_iff.1 h)
  generalize gG d=S at *
  generalize gH d=C at *
  simp[lim,a];refine zq c ?_;simp[t];refine zq e ?_;simp[lim]
theorem Lz (d:Dy)(ok:d.Ok)(f:d.top<=20):CQ prog q8e [d.v] (ey true d).v:=by
 refine ap rfl fun H=>?_
 have b:=kG 1 (by omega) (by omega);have c:=Ds d ok;have e:=q5o d ok f;have t:¬30<d.top:=by omega
 unfold ey rF;by_cases a:d.m=[]
 ·rw[Vh a];have l:d.m.length=0:=by rw[a];rfl
  generalize nI 1 1=Z at *
  simp[lim,l];refine zq b ?_;simp[lim]
 ·rw[Vk a];have l:¬d.m.length=0:=fun h=>a (List.length_eq_zero_iff.1 h)
  generalize gG d=S at *
  generalize gH d=C at *
  simp[lim,a];refine zq c ?_;simp[t];refine zq e ?_;simp[lim]
theorem yx (d:Dy)(c:Bool)(ok:d.Ok)(i:d.top<=20):CQ prog q4h [(Iv.pt d).v,.bool c] (eR c d).v:=by
 refine ap rfl fun H=>?_
 have w:=dX ok.w;have a:=MB (Iv.pt d) 320 w;rw[TH ok]at a;have f:=LK d ok i;have j:=Lz d ok i;have c4:=QI (Iv.pt d) 320 w;have h:=(t7 ok).1;have g:=mA ((Iv.pt d).wid 320).1;have b:=jS (ey c d) (iw d) 320 rX (wG ok);rw[show(ey c d).add (iw d) 320=eR c d from rfl]at b;have e:(iw d).v=.agg [.bool ((Iv.pt d).wid 320).1.neg'.neg,lim ((Iv.pt d).wid 320).1.neg'.m,.int .i64 ((Iv.pt d).wid 320).1.neg'.e,.bool ((Iv.pt d).wid 320).1.neg,lim ((Iv.pt d).wid 320).1.m,.int .i64 ((Iv.pt d).wid 320).1.e,.bool false]:=rfl;rw[e]at b;generalize eR c d=Y at *
 generalize ((Iv.pt d).wid 320).1.neg'=N at *
 generalize (Iv.pt d).wid 320=W at *
 simp only[Iv.pt,Iv.v]at a c4;cases c
 ·generalize ey false d=S at *
  simp[Iv.pt];refine zq a ?_;simp;refine zq f ?_;simp[lim];refine zq c4 ?_;simp[h];refine zq g ?_;simp;refine zq b ?_;simp[lim]
 ·generalize ey false d=S at *
  generalize ey true d=C at *
  simp[Iv.pt];refine zq a ?_;simp;refine zq f ?_;simp;refine zq j ?_;simp[lim];refine zq c4 ?_;simp[h];refine zq g ?_;simp;refine zq b ?_;simp[lim]
theorem Qh (x:Iv)(w:x.W):CQ prog qxq [x.v,.int .i64 (-1000),.int .i64 1000] (.bool (dg x (-1000) 1000)):=by
 refine ap rfl fun H=>?_
 have c:=QX x (-1000) 1000 w (by decide) (by decide);generalize dg x (-1000) 1000=b at *
 simp;refine zq c ?_;simp
def aW (k:Int)(d:Dy):Iv:=
 if dg (Iv.pt d) (-1000) 1000=true then
  (if k=9 then eA d else if k=10 then(if(Iv.pt d).sgn<=0 then Iv.whole else gI d)else if k=11 then eR false d else eR true d)
 else Iv.whole
theorem tj {k:Int}{d:Dy}:(aW k d).W:=by
 unfold aW;split
 ·split
  ·exact og
  ·split
   ·split
    ·exact Iv.whole_W
    ·exact oi
   ·split<;>exact ts
 ·exact Iv.whole_W
theorem YK {d:Dy}(ok:d.Ok)(h:dg (Iv.pt d) (-1000) 1000=true):dD d=true/\d.top<=20:=by
 simp only[dg,VA,VT]at h;have e:(nD (-1000)).Ok:=bR (by omega);have f:(nD 1000).Ok:=bR (by omega);obtain⟨⟨_,a⟩,b⟩:=h;have a:0<=d.cmp (nD (-1000)):=a;have b:d.cmp (nD 1000)<=0:=b;rw[gB ok e,Bn,iP]at a;rw[gB ok f,jw,iP]at b;have g:=bf 16384;have m:dD d=true:=(zU ok).2 (by omega);refine⟨m,?_⟩;by_cases c:d.m=[]
 ·unfold Dy.top;rw[Vh c];omega
 ·have:=sK ok m c;omega
theorem vO {d:Dy}(ok:d.Ok)(h:¬(Iv.pt d).sgn<=0):0<d.sgn:=by
 unfold Iv.sgn at h;rw[Vh (lB ok)]at h;split at h
 ·assumption
 ·split at h<;>omega
theorem Rb (k:Int)(d:Dy)(q:ib k)(ok:d.Ok)(l:d.m.length<=20):CQ prog qv9 [.int .i64 k,(Iv.pt d).v] (aW k d).v:=by
 refine ap rfl fun H=>?_
 have w:=dX ok.w;have a:=Qh (Iv.pt d) w;have g:=gC;have h:=LE d ok;have i:=UN (Iv.pt d) w;unfold aW;by_cases b:dg (Iv.pt d) (-1000) 1000=true
 ·obtain⟨r,j⟩:=YK ok b;have o:=yx d false ok j;have p:=yx d true ok j;have t:=q5q ok l r;have m:=(gO t).2;rw[Vh b];rw[b]at a;rcases q with rfl|rfl|rfl|rfl
  ·generalize eA d=E at *
   simp[Iv.pt];refine zq a ?_;simp;refine zq h ?_;simp[lim];refine zq h ?_;simp[lim,m]
  ·by_cases c:(Iv.pt d).sgn<=0
   ·generalize (Iv.pt d).sgn=s at *
    simp[Iv.pt,c];refine zq a ?_;simp;refine zq i ?_;simp[c];refine zq g ?_;simp[lim,Iv.whole]
   ·have e:=vO ok c;have n:=(gO (q5p ok l e)).2;have c4:=LF d ok (pE ok e).1;generalize gI d=L at *
    generalize (Iv.pt d).sgn=s at *
    simp[Iv.pt,c];refine zq a ?_;simp;refine zq i ?_;simp[c];refine zq c4 ?_;simp[lim];refine zq c4 ?_;simp[lim,n]
  ·generalize eR false d=S at *
   simp[Iv.pt];refine zq a ?_;simp;refine zq o ?_;simp[lim]
  ·generalize eR true d=S at *
   simp[Iv.pt];refine zq a ?_;simp;refine zq p ?_;simp[lim]
 ·rw[Vk b];have f:dg (Iv.pt d) (-1000) 1000=false:=by simpa using b
  rw[f]at a;simp[Iv.pt];refine zq a ?_;simp;refine zq g ?_;simp[lim,Iv.whole]
theorem L9 (x:Iv):CQ prog Zj [jq,.sl [.str ⟨#[120]⟩],.sl [x.v]] x.v:=by
 refine ap rfl fun H=>?_
 simp;refine zq tv ?_;simp[lim]
theorem L8 (k:Int)(d:Dy)(a:ib k)(ok:d.Ok)(l:d.m.length<=20):CQ prog Zj [gE k,.sl [.str ⟨#[120]⟩],.sl [(Iv.pt d).v]] (aW k d).v:=by
 refine ap rfl fun H=>?_
 have e:¬k=1:=by unfold ib at a;omega
 have f:¬k=2:=by unfold ib at a;omega
 have k8:8<k:=by unfold ib at a;omega
 have XW:¬k=13:=by unfold ib at a;omega
 have b:=L9 (Iv.pt d);have c:=Rb k d a ok l;generalize aW k d=F at *
 generalize Iv.pt d=X at *
 simp[e,f];refine zq b ?_;simp[k8,XW];refine zq c ?_;simp[lim]
theorem DY (k:Int)(d:Dy)(b:ib k)(ok:d.Ok)(l:d.m.length<=20):CQ prog q11 [gE k,.sl [.str ⟨#[120]⟩],.sl [(Iv.pt d).v]] (aW k d).v:=by
 refine ap rfl fun H=>?_
 have e:IntKind.i64.wrap 1=1:=by decide
 have a:=Cz (Iv.pt d) (dX ok.w);rw[(gO (lB ok)).1]at a;have c:=L8 k d b ok l;generalize aW k d=F at *
 generalize Iv.pt d=X at *
 simp;refine zq PB ?_;simp;refine ak rfl rfl rfl (Lw b) ?_;simp;refine iF ?_;simp[Zx];refine zq a ?_;simp[e];refine iF ?_;simp;refine zq c ?_;simp[lim]
end Go.Abs.W
namespace Go.Abs.W
set_option maxRecDepth 20000
def fE (k:Int)(a:List Iv)(d:Dy):List Iv:=
 if(aW k d).all=true then []else
 if k=9 then dd (aW 9 d) a 320 else if k=10 then cO (aW 10 d) a 320 else
 if k=11 then(bN (aW 11 d) (aW 12 d) a 320 a.length).1 else(bN (aW 11 d) (aW 12 d) a 320 a.length).2
@[simp] theorem qhQ {H:ab}{s:ByteArray}:bm H (.str s)=some (.str s,H):=rfl
theorem QJ (k:Int)(a:List Iv)(d:Dy)(p:ib k)(o:SW a)(i:1<=a.length)(f:a.length<=1000)(g:aK a 0=Iv.pt d)(ok:d.Ok)(l:d.m.length<=20) :
 CQ prog q10 [.int .i64 k,aC a] (aC (fE k a d)):=by
 refine ap rfl fun H=>?_
 have c:0<a.length:=i;rw[eJ c]at g;have h:=DY k d p ok l;have t:=DY 11 d (.inr (.inr (.inl rfl))) ok l;have u:=DY 12 d (.inr (.inr (.inr rfl))) ok l;have m:IntKind.i64.wrap 11=11:=by decide
 have n:IntKind.i64.wrap 12=12:=by decide
 have w:(aW 11 d).W:=tj;have v:(aW 12 d).W:=tj;have s:(aW k d).W:=tj;have q:=My (aW k d) s a 320 o i f;have r:=MC (aW k d) s a 320 o i f;have j:=Rk (aW 11 d) (aW 12 d) w v a 320 o i f;generalize Iv.pt d=P at *
 by_cases e:(aW k d).all=true
 ·unfold fE;rw[Vh e];generalize aW k d=F at *
  simp[aC,c,g];refine bt rfl rfl (H1:=H++[some ⟨1,[.str ⟨#[120]⟩],true,false⟩,some ⟨6,[.agg [.int .i64 2,.int .i64 0,.int .i64 0,.str ⟨#[120]⟩,.int .i64 0,.nil]],false,true⟩,some ⟨7,[P.v],true,false⟩,some ⟨6,[jq],true,false⟩]) (vs:=[gE k,.sl [.str ⟨#[120]⟩],.sl [P.v]]) (by simp[prep,ah,aF];rfl) h ?_;simp[e]
 unfold fE;rw[Vk e];rcases p with rfl|rfl|rfl|rfl
 ·generalize aW 9 d=F at *
  generalize dd F a 320=Y at *
  have b:F.all=false:=by simpa using e
  simp only[Iv.v,b]at q;simp[aC,c,g];refine bt rfl rfl (H1:=H++[some ⟨1,[.str ⟨#[120]⟩],true,false⟩,some ⟨6,[.agg [.int .i64 2,.int .i64 0,.int .i64 0,.str ⟨#[120]⟩,.int .i64 0,.nil]],false,true⟩,some ⟨7,[P.v],true,false⟩,some ⟨6,[jq],true,false⟩]) (vs:=[gE 9,.sl [.str ⟨#[120]⟩],.sl [P.v]]) (by simp[prep,ah,aF];rfl) h ?_;simp[e];refine zq q ?_;simp[aC]
 ·generalize aW 10 d=F at *
  generalize cO F a 320=Y at *
  have b:F.all=false:=by simpa using e
  simp only[Iv.v,b]at r;simp[aC,c,g];refine bt rfl rfl (H1:=H++[some ⟨1,[.str ⟨#[120]⟩],true,false⟩,some ⟨6,[.agg [.int .i64 2,.int .i64 0,.int .i64 0,.str ⟨#[120]⟩,.int .i64 0,.nil]],false,true⟩,some ⟨7,[P.v],true,false⟩,some ⟨6,[jq],true,false⟩]) (vs:=[gE 10,.sl [.str ⟨#[120]⟩],.sl [P.v]]) (by simp[prep,ah,aF];rfl) h ?_;simp[e];refine zq r ?_;simp[aC]
 ·generalize aW 11 d=F at *
  generalize aW 12 d=G at *
  generalize bN F G a 320 a.length=Y at *
  have b:F.all=false:=by simpa using e
  simp only[Iv.v,b]at j;simp[aC,c,g];refine bt rfl rfl (H1:=H++[some ⟨1,[.str ⟨#[120]⟩],true,false⟩,some ⟨6,[.agg [.int .i64 2,.int .i64 0,.int .i64 0,.str ⟨#[120]⟩,.int .i64 0,.nil]],false,true⟩,some ⟨7,[P.v],true,false⟩,some ⟨6,[jq],true,false⟩]) (vs:=[gE 11,.sl [.str ⟨#[120]⟩],.sl [P.v]]) (by simp[prep,ah,aF];rfl) h ?_;simp[e,n];refine bt rfl rfl (H1:=H++[some ⟨1,[.str ⟨#[120]⟩],true,false⟩,some ⟨6,[.agg [.int .i64 2,.int .i64 0,.int .i64 0,.str ⟨#[120]⟩,.int .i64 0,.nil]],false,true⟩,some ⟨7,[P.v],true,false⟩,some ⟨6,[jq],true,false⟩,some ⟨7,[Iv.v ⟨F.lo,F.hi,false⟩],false,true⟩,some ⟨6,[jq],true,false⟩]) (vs:=[gE 12,.sl [.str ⟨#[120]⟩],.sl [P.v]]) (by simp[prep,ah,aF];rfl) u ?_;simp;refine zq j ?_;simp[aC]
 ·generalize aW 11 d=F at *
  generalize aW 12 d=G at *
  generalize bN F G a 320 a.length=Y at *
  have b:G.all=false:=by simpa using e
  simp only[Iv.v,b]at j;simp[aC,c,g];refine bt rfl rfl (H1:=H++[some ⟨1,[.str ⟨#[120]⟩],true,false⟩,some ⟨6,[.agg [.int .i64 2,.int .i64 0,.int .i64 0,.str ⟨#[120]⟩,.int .i64 0,.nil]],false,true⟩,some ⟨7,[P.v],true,false⟩,some ⟨6,[jq],true,false⟩]) (vs:=[gE 12,.sl [.str ⟨#[120]⟩],.sl [P.v]]) (by simp[prep,ah,aF];rfl) h ?_;simp[e,m];refine bt rfl rfl (H1:=H++[some ⟨1,[.str ⟨#[120]⟩],true,false⟩,some ⟨6,[.agg [.int .i64 2,.int .i64 0,.int .i64 0,.str ⟨#[120]⟩,.int .i64 0,.nil]],false,true⟩,some ⟨7,[P.v],true,false⟩,some ⟨6,[jq],true,false⟩,some ⟨7,[Iv.v ⟨G.lo,G.hi,false⟩],false,true⟩,some ⟨6,[jq],true,false⟩]) (vs:=[gE 11,.sl [.str ⟨#[120]⟩],.sl [P.v]]) (by simp[prep,ah,aF];rfl) t ?_;simp;refine zq j ?_;simp[aC]
end Go.Abs.W
namespace Go.Abs.W
def gU (k:Int)(a:List Iv)(p:Int)(d:Dy):List Iv:=
 if k=9 then iJ a p else if k=10 then gQ a p else
 if k=11 then(bN (fQ d false p) (fQ d true p) a p a.length).1 else(bN (fQ d false p) (fQ d true p) a p a.length).2
theorem sC {z:Iv}{a:List Iv}{p:Int}(b:z.W)(w:a.length<=1000000):SW (dd z a p):=⟨by unfold dd;rw[jy];exact w,dI fun _ _ _=>ro b⟩
theorem s9 {z:Iv}{a:List Iv}{p:Int}(b:z.W)(w:a.length<=1000000):SW (cO z a p):=⟨by unfold cO;rw[jy];exact w,dI fun _ _ _=>rB b⟩
theorem TF {k:Int}{a:List Iv}{p:Int}{d:Dy}(e:SW a)(ok:d.Ok)(b:af p=true):SW (gU k a p d)/\(gU k a p d).length=a.length:=by
 have h:=(tF (c:=false) ok b).1;have i:=(tF (c:=true) ok b).1;obtain⟨f,g⟩:=pI (s:=fQ d false p) (c:=fQ d true p) (a:=a) (p:=p) a.length;obtain⟨j,l⟩:=fo (a:=a) (p:=p) h i a.length;have m:=e.1;unfold gU;split
 ·exact⟨ST e,by unfold iJ;rw[jy]⟩
 ·split
  ·exact⟨Ts m,by unfold gQ;rw[jy]⟩
  ·split
   ·exact⟨⟨by omega,j⟩,f⟩
   ·exact⟨⟨by omega,l⟩,g⟩
theorem wb {k:Int}{a:List Iv}{d:Dy}(g:SW a):SW (fE k a d)/\(fE k a d).length<=a.length:=by
 obtain⟨h,i⟩:=pI (s:=aW 11 d) (c:=aW 12 d) (a:=a) (p:=320) a.length;obtain⟨e,f⟩:=fo (a:=a) (p:=320) (tj (k:=11) (d:=d)) (tj (k:=12) (d:=d)) a.length;have b:=g.1;unfold fE;split
 ·exact⟨T7,by simp⟩
 ·split
  ·exact⟨sC tj b,by unfold dd;rw[jy];omega⟩
  ·split
   ·exact⟨s9 tj b,by unfold cO;rw[jy];omega⟩
   ·split
    ·exact⟨⟨by omega,e⟩,by omega⟩
    ·exact⟨⟨by omega,f⟩,by omega⟩
theorem RD {k:Int}{a:List Iv}{p:Int}{d:Dy}(W:ib k)(f:SW a)(_:1<=a.length)(e:a.length<=1000)(A:aK a 0=Iv.pt d)(ok:d.Ok)(l:d.m.length<=20)(G:af p=true) :
 ∀i,i<(fE k a d).length->ep (aK (gU k a p d) i) (aK (fE k a d) i)=true:=by
 intro i hi;have hi2:i<a.length:=Vx hi (wb f).2;by_cases r:(aW k d).all=true
 ·unfold fE at hi;rw[Vh r]at hi;exact absurd hi (by simp)
 have wp:=dX ok.w;obtain⟨α,_,B⟩:=BB f.2 (k:=0) (q:=d.rat) (by rw[A];exact ej d);have s:dg (Iv.pt d) (-1000) 1000=true:=by
  rcases Yj (dg (Iv.pt d) (-1000) 1000)with h|h
  ·exact h
  ·exfalso;apply r;unfold aW;rw[h];rfl
 obtain⟨Y,I⟩:=YK ok s;have y:aW k d=(if k=9 then eA d else if k=10 then(if(Iv.pt d).sgn<=0 then Iv.whole else gI d)else if k=11 then eR false d else eR true d):=by unfold aW;rw[Vh s]
 have hF:fE k a d=(if k=9 then dd (aW 9 d) a 320 else if k=10 then cO (aW 10 d) a 320 else
  if k=11 then(bN (aW 11 d) (aW 12 d) a 320 a.length).1 else(bN (aW 11 d) (aW 12 d) a 320 a.length).2):=by unfold fE;rw[Vk r]
 have t:aW 11 d=eR false d:=by unfold aW;rw[Vh s];rfl
 have w:aW 12 d=eR true d:=by unfold aW;rw[Vh s];rfl
 rw[hF];unfold gU;have sc:ep (aK (bN (fQ d false p) (fQ d true p) a p a.length).1 i) (aK (bN (aW 11 d) (aW 12 d) a 320 a.length).1 i)=true/\ep (aK (bN (fQ d false p) (fQ d true p) a p a.length).2 i) (aK (bN (aW 11 d) (aW 12 d) a 320 a.length).2 i)=true:=by
  rw[t,w];obtain⟨E,Z,o⟩:=tF (c:=false) ok G;obtain⟨F,k2,s2⟩:=tF (c:=true) ok G;obtain⟨k3,s3⟩:=z8 (c:=false) ok I;obtain⟨k4,s4⟩:=z8 (c:=true) ok I;obtain⟨u,u1,u2⟩:=Ch E (ts (c:=false) (d:=d)) fun k g=>Uh k g o s3
  obtain⟨v,v1,v2⟩:=Ch F (ts (c:=true) (d:=d)) fun k g=>Uh k g s2 s4
  obtain⟨J,b⟩:=TS f e B u v;obtain⟨K,L⟩:=b _ _ p E F u1 v1 a.length (Vo _) i hi2;obtain⟨M,N⟩:=b _ _ 320 ts ts u2 v2 a.length (Vo _) i hi2;obtain⟨O,P⟩:=fo (a:=a) (p:=p) E F a.length;obtain⟨Q,S⟩:=fo (a:=a) (p:=320) (ts (c:=false) (d:=d)) (ts (c:=true) (d:=d)) a.length;obtain⟨j,m⟩:=rT (a:=a) (p:=p) (.inr Z) (.inr k2) a.length e i hi2;obtain⟨T,U⟩:=rT (a:=a) (p:=320) (.inr k3) (.inr k4) a.length e i hi2;exact⟨B0 (bh O) (bh Q) j T K M,B0 (bh P) (bh S) m U L N⟩
 rcases W with rfl|rfl|rfl|rfl
 ·rw[Vh rfl,Vh rfl,SU];have z:aW 9 d=eA d:=y;rw[z,A];obtain⟨j,o⟩:=KD (p:=p) wp;have m:(eA d).Gd:=.inr (q5q ok l Y);obtain⟨q,C,D⟩:=Ch (j2 wp) (og (d:=d)) fun k g=>Uh k g (o _ (ej d)) (Nz ok)
  obtain⟨J,b⟩:=KC f e B q;exact B0 (bh (sC (j2 wp) f.1).2) (bh (sC og f.1).2) (xu e j hi2) (xu e m hi2) (b _ p (j2 wp) C i hi2) (b _ 320 og D i hi2)
 ·show ep (aK (gQ a p) i) (aK (cO (aW 10 d) a 320) i)=true;rw[Tt];have H:¬(Iv.pt d).sgn<=0:=fun h=>r (by rw[y,Vk (by decide),Vh rfl,Vh h];rfl)
  have n:=vO ok H;have z:aW 10 d=gI d:=by rw[y,Vk (by decide),Vh rfl,Vk H]
  rw[z,A];obtain⟨j,o⟩:=Tu (p:=p) wp;have m:(gI d).Gd:=.inr (q5p ok l n);obtain⟨q,C,D⟩:=Ch (j0 (x:=Iv.pt d) (p:=p)) (oi (d:=d)) fun k g=>HasLog.meet k g (o _ (ej d)) (NA ok n)
  obtain⟨J,b⟩:=KY f e B q;exact B0 (bh (s9 j0 f.1).2) (bh (s9 oi f.1).2) (xO f j hi2) (xO f m hi2) (b _ p j0 C i hi2) (b _ 320 oi D i hi2)
 ·exact sc.1
 ·exact sc.2
set_option maxRecDepth 20000
def o7 (d:Dy):Iv:=if d.valid=true then Iv.pt d else Iv.whole
theorem Pw (d:Dy)(b:Li d.m):CQ prog Zo [d.v] (o7 d).v:=by
 by_cases a:d.m.length<=100000000
 ·exact qN d ⟨b,a⟩
 ·have f:d.valid=false:=by
   cases h:d.valid
   ·rfl
   ·exact absurd (Dy.Ok.of b h).len (by omega)
  have v:CQ prog Y8 [d.v] (.bool false):=by
   refine ap rfl fun H=>?_
   have c:¬(d.m.length:Int)<=256:=by omega
   have e:¬d.m.length=0:=by omega
   have g:¬d.m=[]:=fun h=>by rw[h]at a;simp at a
   simp[lim,c,e]
  unfold o7;rw[f];refine ap rfl fun H=>?_
  simp;refine zq v ?_;simp;refine zq dA ?_;simp[lim,Iv.whole]
theorem KR (x:Iv):CQ prog ZC [x.v] (.bool x.all):=by
 refine ap rfl fun H=>?_
 simp
theorem Vb {H K:ab}(h:H <+: K):K.take H.length=H:=(List.prefix_iff_eq_take.1 h).symm
theorem Sz {n0:Nat}{Q:AX->aA->ab->Prop}{dst:Option Nat}{e:Bool}{l:List AOper}{K:List Fr}{E:aA}{H H1:ab}{x:X}{caps args vs:List V}{a:List X}{g:Nat}{v:V}
 (d:am E x=.fn g caps) (b:a.map (am E)++caps=args) (c:prep prog g H args=some (vs,H1)) (h:Ev prog (.call g vs H1) (.ret v H1)) (k:WL prog n0 false l K (put E dst v) H1 Q):mw prog n0 false dst x a e l K E H Q:=
 qy d b c ⟨_,_,h,fun h=>by simp at h,k⟩
theorem M4 {p:Int}{A:List Iv}(h:gS p [A]=false){x:Iv}(c:x ∈ A):x.lo.m.length<=20:=by
 simp only[gS,abt]at h;have b:=List.any_eq_false.1 h.2 A (by simp);simp only[pB,WF,not_or,VT]at b;rcases Vm 20 x.lo.m.length with a|a
 ·exact absurd (List.any_eq_true.2 ⟨x,c,by simp[Iv.g21,a]⟩) b.2
 ·exact a
theorem Oi (l:List Dy)(p:Int)(hl:l.length<=1048576)(lm:∀d ∈ l,Li d.m):CQ prog qsp [.sl (l.map Dy.v),.int .i64 p] (.bool true):=by
 refine ap rfl fun H=>?_
 have⟨A,hA⟩:∃A,A=l.map o7:=⟨_,rfl⟩
 have hAl:A.length=l.length:=by rw[hA,Wn]
 simp;refine zq Qg ?_;simp;refine aJ (fun i E H'=>E 0=.sl (l.map Dy.v)/\E 1=.int .i64 p/\E 19=.sl (l.map Dy.v)/\E 20=.int .i64 (l.length:Int)/\E 21=.int .i64 (i:Int)/\Out H H' (E 5) 7 ((A.take i).map Iv.v)) l.length ?_ ?_
 ·simp;exact .nil
 ·rintro i E H' hi ⟨e0,e1,e19,B,C,ho⟩;rcases Vm i l.length with n|hge
  ·have g1:IntKind.i64.wrap ((i:Int)+1)=(i:Int)+1:=by rw[wrap_i64]<;>omega
   have f1:(i:Int)<l.length:=by omega
   have cp:=Pw l[i] (lm _ (Vy n));have gi:(l.map Dy.v)[i]?=some l[i].v:=by simp[n]
   generalize hd:l[i]=d at *
   have ai:A.take (i+1)=A.take i++[o7 d]:=by
    have:A[i]?=some (o7 d):=by rw[hA];simp[n,hd]
    rw[aaH,this];rfl
   rw[ai];generalize o7 d=P at *
   simp[JK,e19,B,C,f1,n,hd];refine zq cp ?_;obtain⟨v',H'',e',ho'⟩:=(ho.grow [some ⟨3,[d.v],false,true⟩]).oneIv P (by simp;omega);simp only[Iv.v,Dy.v]at e';simp at e';simp[e',e0,e1,e19,B,C,g1];simpa using ho'
  ·have hin:i=l.length:=by omega
   subst hin;rw[VC (by omega)]at ho;simp[JK,e1,B,C];rcases ho.val with ⟨hn,m⟩|⟨b,blk,hb,m,h5,I,J⟩
   ·have v:A=[]:=List.map_eq_nil_iff.1 hn;have g:=xT p [[]] (by simp) (by simp);simp[m];refine bt (H1:=H'++[some ⟨1,[aC []],true,false⟩]) (vs:=[.int .i64 p,cY [[]]]) rfl rfl (by simp[prep,ah,aF,aC,cY];rfl) g ?_;have M:=Vb (ho.pre.trans (Wl H' [some ⟨1,[aC []],true,false⟩]));cases hg:gS p [[]]<;>simp[m,M]
   ·rw[Wn]at m I J;have⟨F,hF⟩:∃F,F=H'.set b (some ⟨7,blk,true,false⟩):=⟨_,rfl⟩
    have bl:=(Vi.1 h5).1;have pf:d6 H' (E 5)=some (aC A,F):=by
     rw[m,hF];simp[bm,h5,I,J,aC]
    have fb:F[b]?=some (some ⟨7,blk,true,false⟩):=by rw[hF];simp[bl]
    have fg:=fun G=>(cy (VJ F) fb).2 G
    have hp:H <+: F:=by
     obtain⟨G,rfl⟩:=ho.pre;rw[hF,aae _ _ hb];exact Wl _ _
    have M:=fun G=>Vb (hp.trans (Wl F G))
    clear hF h5;have g:=xT p [A] (by simp) (by simp;omega);simp[pf];refine bt (H1:=F++[some ⟨1,[aC A],true,false⟩]) (vs:=[.int .i64 p,cY [A]]) rfl rfl (by simp[prep,ah,aF,aC,cY];rfl) g ?_;cases hg:gS p [A]
    case true=>simp[M]
    have la:LL A:=⟨by omega,fun x L=>by
     rw[hA]at L;obtain⟨d,hd,rfl⟩:=List.mem_map.1 L;unfold o7;split
     ·exact⟨lm d hd,lm d hd⟩
     ·exact⟨by intro x L;simp[Iv.whole]at L,by intro x L;simp[Iv.whole]at L⟩⟩
    obtain⟨h30,N⟩:=Qu hg (by simp) la;by_cases h10:10<A.length
    ·have f10:(10:Int)<A.length:=by omega
     simp[m,f10,M]
    have f10:¬(10:Int)<A.length:=by omega
    by_cases h0:A.length=0
    ·have f0:A=[]:=List.length_eq_zero_iff.1 h0;simp[m,f0,M]
    have f0:¬A=[]:=fun h=>h0 (by rw[h];rfl)
    simp[m,f10,f0,e1];refine ak rfl rfl rfl (tU p) ?_;cases o:af p
    case false=>simp[M]
    simp[m];have co:=YW (H:=F++[some ⟨1,[aC A],true,false⟩]) (g:=ZC) (caps:=[]) (p:=fun x=>x.all) A (by omega) fun x L=>iu (fun _=>rfl) (KR x)
    refine Sz rfl rfl (by simp[prep,ah,aF,fg,I,J];rfl) co ?_;cases w:A.any fun x=>x.all
    case true=>simp[M]
    have n:0<l.length:=by omega
    have v:0<A.length:=by omega
    have hv:l[0].valid=true/\A[0]=Iv.pt l[0]:=by
     have e:A[0]=o7 l[0]:=by simp[hA]
     have na:=List.any_eq_false.1 w A[0] (Vy v);rw[e]at na ⊢;unfold o7 at na ⊢;cases hv:l[0].valid
     ·rw[hv]at na;exact absurd rfl na
     ·exact⟨rfl,rfl⟩
    have ok:=Dy.Ok.of (lm _ (Vy n)) hv.1;have D:l[0].m.length<=20:=by
     have:=M4 hg (Vy v);rw[hv.2]at this;exact this
    have q:aK A 0=Iv.pt l[0]:=by rw[eJ v];exact hv.2
    generalize l[0]=d at *
    have hsA:dq [A]=true:=are1.2 ⟨by omega,by omega⟩;have c1:=Rl A p N hsA (tF (c:=false) ok o).1 (tF (c:=true) ok o).1 (by rw[q];exact Sx d p ok o) (by rw[q];exact Sn d p ok o);have c2:=Ka A p N;have c3:=Kb A p N;rw[Vh hsA]at c2 c3;have tr:=fun k hk=>QJ k A d hk N (by omega) (by omega) q ok D
    have tf:=fun k hk=>RD (k:=k) (p:=p) hk N (by omega) (by omega) q ok D o
    have gw:=fun k=>TF (k:=k) N ok o
    have tw:=fun k=>wb (k:=k) (d:=d) N
    rw[show(bN (fQ d false p) (fQ d true p) A p A.length).1=gU 11 A p d from rfl,show(bN (fQ d false p) (fQ d true p) A p A.length).2=gU 12 A p d from rfl]at c1;rw[show iJ A p=gU 9 A p d from rfl]at c2;rw[show gQ A p=gU 10 A p d from rfl]at c3;have⟨gg,hgg⟩:∃gg:Int->List Iv,∀k,gU k A p d=gg k:=⟨_,fun _=>rfl⟩
    have⟨ww,hww⟩:∃ww:Int->List Iv,∀k,fE k A d=ww k:=⟨_,fun _=>rfl⟩
    simp only[hgg,hww]at c1 c2 c3 tr tf gw tw;clear hgg hww q hv w co D ok;have hp0:H <+: F++[some ⟨1,[aC A],true,false⟩]:=hp.trans (Wl _ _);have u:=fg [some ⟨1,[aC A],true,false⟩];simp[m,e1];generalize F++[some ⟨1,[aC A],true,false⟩]=r at *
    have fg0:=fun G=>(cy (VJ r) u).2 G
    refine bt (H1:=r) (vs:=[aC A,.int .i64 p]) rfl rfl (by simp[prep,ah,aF,u,I,J];rfl) c1 ?_;simp[m,e1];refine bt (H1:=r) (vs:=[aC A,.int .i64 p]) rfl rfl (by simp[prep,ah,aF,u,I,J];rfl) c2 ?_;simp[m,e1];refine bt (H1:=r) (vs:=[aC A,.int .i64 p]) rfl rfl (by simp[prep,ah,aF,u,I,J];rfl) c3 ?_;simp[aC];have⟨el,hel⟩:∃el:List V,el=[V.sl (List.map Iv.v (gg 9)),V.sl (List.map Iv.v (gg 10)),V.sl (List.map Iv.v (gg 11)),V.sl (List.map Iv.v (gg 12))]:=⟨_,rfl⟩
    have eli:∀i:Nat,i<4->el[i]?=some (V.sl (List.map Iv.v (gg (9+(i:Int))))):=by
     intro i hi;rw[hel];rcases(by omega:i=0\/i=1\/i=2\/i=3)with rfl|rfl|rfl|rfl<;>rfl
    have kdi:∀(i:Nat) (h:i<[V.int .i64 9,V.int .i64 10,V.int .i64 11,V.int .i64 12].length),[V.int .i64 9,V.int .i64 10,V.int .i64 11,V.int .i64 12][i]'h=V.int .i64 (9+(i:Int)):=by
     intro i hi;have hi':i<4:=hi;rcases(by omega:i=0\/i=1\/i=2\/i=3)with rfl|rfl|rfl|rfl<;>rfl
    rw[<-hel];refine aJ (fun i E1 t=>E1 5=.ref b 7 0 A.length/\E1 68=.ref r.length 1 0 4/\E1 69=.int .i64 4/\E1 70=.int .i64 (i:Int)/\r++[some ⟨1,el,true,true⟩] <+: t) 4 ?_ ?_
    ·simp[m]
    ·rintro i E1 t hi ⟨x5,x68,O,Q,f⟩;have gb:=cy f (fg0 [some ⟨1,el,true,true⟩]);have gr:=cy f (show(r++[some ⟨1,el,true,true⟩])[r.length]?=some (some ⟨1,el,true,true⟩) by simp);rcases Vm i 4 with h4|h4
     ·have f4:(i:Int)<4:=by omega
      have g1:IntKind.i64.wrap ((i:Int)+1)=(i:Int)+1:=by rw[wrap_i64]<;>omega
      have hk:ib (9+(i:Int)):=by unfold ib;omega
      have t1:=tr _ hk;have t2:=tf _ hk;have t3:=gw (9+(i:Int));have t4:=tw (9+(i:Int));have ei:=eli i h4;have ki:=kdi i;have n1:=t3.2;have n2:=t4.2;generalize gg (9+(i:Int))=G at *
      generalize ww (9+(i:Int))=W at *
      generalize 9+(i:Int)=k at *
      simp[JM,x5,x68,O,Q,f4,gr.1,ei,ki,h4];refine bt (H1:=t++[some ⟨1,[.int .i64 9,.int .i64 10,.int .i64 11,.int .i64 12],true,true⟩]) (vs:=[.int .i64 k,aC A]) rfl rfl (by simp[prep,ah,aF,gb.2,I,J,aC];rfl) t1 ?_;simp[aC,x5,n1];refine aJ (fun j s H2=>s 5=.ref b 7 0 A.length/\s 68=.ref r.length 1 0 4/\s 69=.int .i64 4/\s 70=.int .i64 (i:Int)/\s 11=aC G/\s 86=aC W/\s 87=.int .i64 (W.length:Int)/\s 88=.int .i64 (j:Int)/\r++[some ⟨1,el,true,true⟩] <+: H2) W.length ?_ ?_
      ·simp[x5,x68,O,Q,aC];exact f.trans (Wl _ _)
      ·rintro j s H2 hj ⟨y5,y68,y69,y70,S,T,Y,Z,y⟩;simp only[aC]at S T;rcases Vm j W.length with a|hge2
       ·have f5:(j:Int)<W.length:=by omega
        have g2:IntKind.i64.wrap ((j:Int)+1)=(j:Int)+1:=by rw[wrap_i64]<;>omega
        have K:j<G.length:=by omega
        have cm:=zc G[j] W[j] (t3.1.2 _ (Vy K)) (t4.1.2 _ (Vy a));have mb:=t2 j a;rw[eJ K,eJ a]at mb;obtain⟨z,hz⟩:=Option.isSome_iff_exists.1 mb;rw[hz]at cm;have q1:(G.map Iv.v)[j]?=some G[j].v:=by simp[K]
        have q2:(W.map Iv.v)[j]?=some W[j].v:=by simp[a]
        generalize G[j]=U at *
        generalize W[j]=V' at *
        simp[JL,S,T,Y,Z,f5,q1,q2];refine zq cm ?_;simp[eo,y5,y68,y69,y70,S,T,Y,Z,g2,aC];exact⟨a,y.trans (Wl _ _)⟩
       ·have hjw:j=W.length:=by omega
        subst hjw;simp[JL,y5,y68,y69,y70,Y,Z,g1];exact y
     ·have hi4:i=4:=by omega
      subst hi4;simp[JM,O,Q];exact Vb (hp0.trans ((Wl _ _).trans f))
