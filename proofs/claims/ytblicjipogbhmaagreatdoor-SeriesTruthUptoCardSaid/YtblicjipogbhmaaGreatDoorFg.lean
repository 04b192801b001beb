import Derived.Test.YtblicjipogbhmaaGreatDoorFf
namespace Go.Abs.W
set_option maxHeartbeats 4000000
@[simp] theorem qhF (n k:Nat):¬(n+k<n):=by omega
theorem QQ (l:List Nat)(j:l.length<=1000000000):CQ prog qzm [lim l] (lim (trimL l)):=by
 refine ap rfl fun H=>?_
 simp[lim];refine e9 (fun k E f=>f=H/\E 0=lim l/\k<=l.length/\E 3=.int .i64 k/\a9 l k=a9 l l.length) l.length ?_ ?_
 ·simp[lim]
 ·rintro n E f ⟨rfl,b,h,d,e⟩;refine b9 ?_;simp only[lim]at b;rcases n with _|n
  ·simp[Dh,b,d,trimL,<-e,a9]
  ·have g:IntKind.i64.wrap (n:Int)=n:=by rw[wrap_i64]<;>omega
   have a:n<l.length:=by omega
   have i:(0:Int)<=(n:Int)+1:=by omega
   have p2:(0:Int)<(n:Int)+1:=by omega
   by_cases c:l[n]=0
   ·simp[Dh,b,d,g,a,c,u32,p2];refine⟨n,by omega,rfl,by omega,rfl,?_⟩;rw[<-e,a9,Vh (by rw[k9 a,c])]
   ·simp[Dh,b,d,g,a,c,u32,i,p2,h];rw[trimL,<-e,a9,Vk (by rw[k9 a];simpa using c),aaL]
theorem PZ {n k:Nat}(a:n/2^k%2=1)(b:n%2^k=0):tz n=k:=by
 have e:n=n/2^k*2^k:=by
  have:=WY n (2^k);omega
 rw[e,oC (by omega),r7 a,W1]
theorem T4 {x r:Nat}(a:x≠0)(h:x<4294967296):tz (x+4294967296*r)=tz x:=by
 obtain⟨c,_,b⟩:=mE a;obtain⟨_,f⟩:=sL x a h;have⟨t,d⟩:∃t,t=tz x:=⟨_,rfl⟩
 rw[<-d]at c b f ⊢;have e:4294967296*r=2^t*(2*(2^(31-t)*r)):=by
  rw[<-Vt 2,<-Vt (2^t),<-aaK,<-Vs,show t+(31-t+1)=32 by omega]
 refine PZ ?_ ?_
 ·rw[e,X0 _ _ (Vl t)];omega
 ·rw[e,XA,b]
theorem Tv (m:List Nat)(u:m.length<=1000000)(lm:Li m)(r:aa m≠0):CQ prog RU [lim m] (.int .i64 (tz (aa m))):=by
 refine ap rfl fun H=>?_
 simp[lim];refine aJ (fun i E l=>l=H/\E 3=.int .i64 ((32*i:Nat):Int)/\E 6=lim m/\E 7=.int .i64 m.length/\E 8=.int .i64 i/\aa (m.take i)=0) m.length ?_ ?_
 ·simp[lim,aa]
 ·rintro i E l hi ⟨rfl,c,f,n,o,hv⟩;rcases Vm i m.length with a|h
  ·simp only[lim]at f;have p:IntKind.i64.wrap ((i:Int)+1)=((i+1:Nat):Int):=by rw[wrap_i64]<;>omega
   have d:IntKind.i64.wrap (((32*i:Nat):Int)+32)=((32*(i+1):Nat):Int):=by rw[wrap_i64]<;>omega
   have k:m[i]<4294967296:=lm _ (Vy a);by_cases b:m[i]=0
   ·have j:aa (m.take (i+1))=0:=by rw[fI,hv,ce a,b];simp
    have⟨A,g⟩:∃A,A=32*i:=⟨_,rfl⟩
    have⟨B,s⟩:∃B,B=32*(i+1):=⟨_,rfl⟩
    rw[<-g]at c d;rw[<-s]at d;simp[GG,c,f,n,o,a,b,u32,p,d,lim];exact⟨by omega,j⟩
   ·have e:tz (aa m)=32*i+tz m[i]:=by
     rw[kJ m i,hv,W1,fH,ce a,bB,VE,oC (by omega),T4 b k];omega
    have v:=(sL m[i] b k).2;have t:¬(m[i]:Int)=0:=by omega
    have⟨A,g⟩:∃A,A=32*i:=⟨_,rfl⟩
    rw[<-g]at c e;have q:IntKind.i64.wrap ((A:Int)+tz m[i])=tz (aa m):=by rw[e,wrap_i64]<;>omega
    simp[GG,c,f,n,o,a,b,u32,lim];refine ak rfl rfl rfl (qw4 m[i] b k) ?_;simp[q]
  ·exfalso;rw[eX h]at hv;exact r hv
theorem Ex (neg:Bool)(m:List Nat)(e:Int)(o:m.length<=256)(lm:Li m)(j:-1000000<=e)(k:e<=1000000):CQ prog qwn [.bool neg,lim m,.int .i64 e] (Dy.of neg (aa m) e).v:=by
 refine ap rfl fun H=>?_
 simp;refine ak rfl rfl rfl (QQ m (by omega)) ?_;rw[eh lm];by_cases b:aa m=0
 ·simp[b,kr,lim,Dy.of]
 ·have⟨x,d⟩:∃x,x=aB (aa m):=⟨_,rfl⟩
  have a:aa x=aa m:=by rw[d,aP]
  have f:Li x:=by rw[d];exact aY _
  have l:x.length<=m.length:=by rw[d];exact limbsOf_len.2 (bz lm)
  have c:x≠[]:=by rw[d];exact lE b
  have n:¬(x.length:Int)=0:=by
   intro h;exact c (VK (by omega))
  have i:=q53 f (by rw[a];exact b);have g:IntKind.i64.wrap (e+(tz (aa m):Int))=e+tz (aa m):=by rw[a]at i;rw[wrap_i64]<;>omega
  have hz:(aB (aa m/2^tz (aa m))).length<=256:=by
   rw[<-a];exact i6 (VY _ _) (Vp (limbsOf_len.2 (bz f)) (by omega))
  rw[<-d];simp[lim,c];refine ak rfl rfl rfl (Tv x (by omega) f (by rw[a];exact b)) ?_;simp;refine ak rfl rfl rfl (sj x (tz (aa x)) (by omega) f (by omega)) ?_;rw[a];simp;refine ak rfl rfl rfl (Cm _ (by omega)) ?_;simp;refine ak rfl rfl rfl (DB _) ?_;simp[g,Dy.of,b,lim]
theorem ZS (d:Dy)(a:d.W):CQ prog qzq [d.v] (.tup [(if d.inR then d else Dy.zero).v,.int .i64 (if d.inR then 0 else 9)]):=by
 refine ap rfl fun H=>?_
 simp;refine ak rfl rfl rfl (q59 d a.len a.li) ?_;cases h:d.inR<;>simp[Dy.zero,lim]
theorem q24 (e:Int):CQ prog qxx [.int .i64 e] (.bool (decide (-32768<=e)&&decide (e<=32768))):=by
 refine ap rfl fun H=>?_
 simp;grind
theorem Dy.of_W {neg:Bool}{n:Nat}{e:Int}(h:(aB n).length<=1000000):(Dy.of neg n e).W:=by
 unfold Dy.of;split
 ·exact⟨by intro x a;simp at a,by simp⟩
 ·exact⟨aY _,Vp (i6 (VY _ _) h) (by omega)⟩
def Dy.chk (d:Dy):Dy:=if d.inR then d else Dy.zero
def Dy.chkE (d:Dy):Int:=if d.inR then 0 else 9
theorem Dp (neg:Bool)(m:List Nat)(e:Int)(d:m.length<=256)(lm:Li m)(a:-32768<=e)(b:e<=32768):CQ prog q82 [.bool neg,lim m,.int .i64 e] (.tup [(Dy.of neg (aa m) e).chk.v,.int .i64 (Dy.of neg (aa m) e).chkE]):=by
 refine ap rfl fun H=>?_
 have c:¬((256:Int)<m.length):=by omega
 have f:¬(256<m.length):=by omega
 have w:(Dy.of neg (aa m) e).W:=Dy.of_W (Vp (limbsOf_len.2 (bz lm)) (by omega));simp[lim,c];refine ak rfl rfl rfl (q24 e) ?_;simp[a,b];refine ak rfl rfl rfl (Ex neg m e d lm (by omega) (by omega)) ?_;simp;refine ak rfl rfl rfl (ZS _ w) ?_;simp[Dy.chk,Dy.chkE,lim]
def Dy.opp (d:Dy):Dy:=if d.valid=true/\d.m≠[]then⟨!d.neg,d.m,d.e⟩else Dy.zero
def Dy.abs (d:Dy):Dy:=if d.valid=true/\d.m≠[]then⟨false,d.m,d.e⟩else Dy.zero
theorem Bq (d:Dy)(w:d.W):CQ prog RS [d.v] d.opp.v:=by
 refine ap rfl fun H=>?_
 have:=w.len;simp;refine ak rfl rfl rfl (kE d w.len w.li) ?_;cases hv:d.valid
 ·simp[Dy.opp,hv,Dy.zero,lim]
 ·by_cases a:d.m=[]
  ·simp[Dy.opp,hv,a,Dy.zero,lim]
  ·have b:¬(d.m.length:Int)=0:=by intro h;exact a (VK (by omega))
   simp[lim,a];refine ak rfl rfl rfl (Cm d.m (by omega)) ?_;simp[Dy.opp,hv,a,lim]
theorem Bp (d:Dy)(w:d.W):CQ prog RQ [d.v] d.abs.v:=by
 refine ap rfl fun H=>?_
 have:=w.len;simp;refine ak rfl rfl rfl (kE d w.len w.li) ?_;cases hv:d.valid
 ·simp[Dy.abs,hv,Dy.zero,lim]
 ·by_cases a:d.m=[]
  ·simp[Dy.abs,hv,a,Dy.zero,lim]
  ·have b:¬(d.m.length:Int)=0:=by intro h;exact a (VK (by omega))
   simp[lim,a];refine ak rfl rfl rfl (Cm d.m (by omega)) ?_;simp[Dy.abs,hv,a,lim]
theorem Ug (d:Dy)(w:d.W):CQ prog q83 [d.v] (.int .i64 (if d.valid then ac (aa d.m)else 0)):=by
 refine ap rfl fun H=>?_
 simp;refine ak rfl rfl rfl (kE d w.len w.li) ?_;cases hv:d.valid
 ·simp
 ·simp;refine ak rfl rfl rfl (sV d.m w.len w.li) ?_;simp
def Dy.scl (d:Dy)(k:Int):Dy:=if d.valid=true/\-32768<=k/\k<=32768 then(Dy.of d.neg (aa d.m) (d.e+k)).chk else Dy.zero
def Dy.sclE (d:Dy)(k:Int):Int:=if d.valid=true/\-32768<=k/\k<=32768 then(Dy.of d.neg (aa d.m) (d.e+k)).chkE else 1
theorem AB (d:Dy)(k:Int)(w:d.W):CQ prog q40 [d.v,.int .i64 k] (.tup [(d.scl k).v,.int .i64 (d.sclE k)]):=by
 refine ap rfl fun H=>?_
 simp;refine ak rfl rfl rfl (kE d w.len w.li) ?_;cases hv:d.valid
 ·simp[Dy.scl,Dy.sclE,hv,Dy.zero,lim]
 ·have ok:=Dy.Ok.of w.li hv;simp;refine ak rfl rfl rfl (q24 k) ?_;by_cases a:-32768<=k/\k<=32768
  ·have f:=ok.elo;have g:=ok.ehi;have c:IntKind.i64.wrap (d.e+k)=d.e+k:=by rw[wrap_i64]<;>omega
   simp[a,c];refine ak rfl rfl rfl (Ex d.neg d.m (d.e+k) ok.len ok.li (by omega) (by omega)) ?_;have e:(Dy.of d.neg (aa d.m) (d.e+k)).W:=Dy.of_W (Vp (limbsOf_len.2 (bz ok.li)) (by have:=ok.len;omega));simp;refine ak rfl rfl rfl (ZS _ e) ?_;simp[Dy.scl,Dy.sclE,hv,a,Dy.chk,Dy.chkE]
  ·have b:(decide (-32768<=k)&&decide (k<=32768))=false:=by
    simp;omega
   simp[b,Dy.scl,Dy.sclE,hv,a,Dy.zero,lim]
end Go.Abs.W
namespace Go.Abs.W
set_option maxHeartbeats 4000000
theorem ng (l:List Nat)(z:l.length<=1000000000):CQ prog u7 [lim l] (lim (trimL l)):=by
 refine ap rfl fun H=>?_
 simp[lim];refine e9 (fun k E s=>s=H/\E 0=lim l/\k<=l.length/\E 3=.int .i64 k/\a9 l k=a9 l l.length) l.length ?_ ?_
 ·simp[lim]
 ·rintro n E s ⟨rfl,i,v,o,q⟩;refine b9 ?_;simp only[lim]at i;have f:∀k,k<=l.length->k*4<=140737488355328:=by omega
  have b:∀k,k=a9 l l.length->k<=l.length->(List.take k (List.map u32 l))=List.map u32 (trimL l):=by
   intro k u _;rw[trimL,u,aaL]
  rcases n with _|n
  ·have g:=b 0 (by rw[<-q];rfl) (by omega);simp[Dc,i,o,fP,<-g]
  ·have t:IntKind.i64.wrap (n:Int)=n:=by rw[wrap_i64]<;>omega
   have a:n<l.length:=by omega
   have y:(0:Int)<=(n:Int)+1:=by omega
   have p2:(0:Int)<(n:Int)+1:=by omega
   by_cases j:l[n]=0
   ·simp[Dc,i,o,t,a,j,u32,p2];refine⟨n,by omega,rfl,by omega,rfl,?_⟩;rw[<-q,a9,Vh (by rw[k9 a,j])]
   ·have w:¬((l[n]:Int)=0):=by omega
    have g:=b (n+1) (by rw[<-q,a9,Vk (by rw[k9 a];simpa using j)]) (by omega);have f8:=f (n+1) (by omega);have p:l≠[]:=by intro h;rw[h]at a;simp at a
    have c:fF 1 (List.take (n+1) (List.map u32 l))=true:=by
     cases l with
     |nil=>exact absurd rfl p
     |cons x l=>simp[fF]
    have⟨m,e⟩:∃m,m=List.take (n+1) (List.map u32 l):=⟨_,rfl⟩
    rw[<-e]at c g;have d:m.length=n+1:=by rw[e];simp;omega
    have r:m≠[]:=by intro h;rw[h]at d;simp at d
    simp only[fF]at c;simp[Dc,i,o,t,a,j,u32,y,p2,v,fP,<-e];rw[Vh c];simp[d,f8,r];rw[<-g,VC (by omega)]
def Sees (v:V)(l:List Nat)(H:ab):Prop:=v=lim l\/∃b w,v=.ref b 1 0 l.length/\H[b]?=some (some ⟨1,l.map u32,true,w⟩)
theorem Sees.lim {l:List Nat}{H:ab}:Sees (Go.Abs.lim l) l H:=.inl rfl
theorem lK {H:ab}{v:V}{l:List Nat}(h:Sees v l H)(ll:Li l)(i:Nat):Ev prog (.call YE [v,.int .i64 i] H) (.ret (.int .u64 (aw l i)) H):=by
 refine iM rfl ?_;have dl:=dz ll i;have e:=cJ (aw l i) (by omega);rcases h with rfl|⟨b,w,rfl,a⟩
 ·by_cases hi:i<l.length
  ·rw[ce hi]at e ⊢;simp[Go.Abs.lim,hi,u32,e]
  ·rw[kd (by omega)];simp[Go.Abs.lim,hi]
 ·by_cases hi:i<l.length
  ·rw[ce hi]at e ⊢;simp[hi,u32,e,a]
  ·rw[kd (by omega)];simp[hi]
theorem tg (l:List Nat)(ll:Li l)(i:Nat):CQ prog YE [lim l,.int .i64 i] (.int .u64 (aw l i)):=fun _=>lK Sees.lim ll i
theorem q05 {a b:List Nat}(c:Li a){k:Nat}(d:aa (a.drop (k+1))=aa (b.drop (k+1)))(h:aw a k<aw b k):aa a<aa b:=by
 rw[kJ a k,kJ b k,fH,fH b,d];have f:=bz (c.take k);have e:4294967296^(a.take k).length<=4294967296^k:=Vg (by omega) (by simp;omega);have g:4294967296^k*(aw a k+4294967296*aa (b.drop (k+1)))+4294967296^k<=4294967296^k*(aw b k+4294967296*aa (b.drop (k+1))):=by
  rw[<-aaY];exact VN _ (by omega)
 omega
theorem Sees.len {H:ab}{v:V}{l:List Nat}(h:Sees v l H):(v=.sl (l.map u32))\/∃b,v=.ref b 1 0 l.length:=by
 rcases h with h|⟨b,w,h,_⟩
 ·exact .inl h
 ·exact .inr ⟨b,h⟩
theorem wM {H:ab}{h i:V}{a b:List Nat}(q:Sees h a H)(r:Sees i b H)(o:Li a)(p:Li b)(L:a.length<=1000000000)(M:b.length<=1000000000):Ev prog (.call YN [h,i] H) (.ret (.int .i64 (aL (aa a) (aa b))) H):=by
 refine iM rfl ?_;have⟨n,O⟩:∃n,n=max a.length b.length:=⟨_,rfl⟩
 have w:(if a.length<b.length then(b.length:Int)else a.length)=n:=by split<;>omega
 have y:IntKind.i64.wrap ((n:Int)-1)=(n:Int)-1:=by rw[wrap_i64]<;>omega
 have D:∀E:aA,E 0=h->E 1=i->E 5=.int .i64 ((n:Int)-1)->WK prog H.length (.loop C2) [.blk 0,.seq (.seq (.region false [⟨some 4,.mv (.c (.int .i64 0)),none,false⟩]) .ret)] E H
  (fun x u v=>(x=.normal\/x=.ret)/\fin false H.length v (u 4)=some (.int .i64 (aL (aa a) (aa b)),H)):=by
  intro E A B C;refine e9 (fun k E s=>s=H/\E 0=h/\E 1=i/\k<=n/\E 5=.int .i64 ((k:Int)-1)/\aa (a.drop k)=aa (b.drop k)) n ?_ ?_
  ·exact⟨rfl,A,B,Vo _,C,by rw[W7 (by omega),W7 (by omega)]⟩
  ·rintro k E s ⟨rfl,j,l,N,e,g⟩;refine b9 ?_;rcases k with _|k
   ·have K:¬((0:Int)<=-1):=by omega
    simp only[aaA]at g;simp[C2,e,g,aL]
   ·have f:(k+1:Int)-1=k:=by omega
    have G:(0:Int)<=k:=by omega
    have z:IntKind.i64.wrap ((k:Int)-1)=(k:Int)-1:=by rw[wrap_i64]<;>omega
    simp[C2,j,e,f,G];refine bW rfl rfl rfl (lK q o k) ?_;simp[l,e,f];refine bW rfl rfl rfl (lK r p k) ?_;by_cases d:aw a k<aw b k
    ·have m:=q05 o g d;simp[d,aL,m]
    ·have t:¬((aw a k:Int)<aw b k):=by omega
     simp[d,j,e,f];refine bW rfl rfl rfl (lK q o k) ?_;simp[l,e,f];refine bW rfl rfl rfl (lK r p k) ?_;by_cases c:aw b k<aw a k
     ·have m:=q05 p g.symm c;have F:¬aa a<aa b:=by omega
      simp[c,aL,m,F]
     ·simp[c,j,l,e,f,z];refine⟨k,by omega,by omega,rfl,?_⟩;rw[fH,fH b,g];omega
 rcases q.len with rfl|⟨I,rfl⟩<;>rcases r.len with rfl|⟨J,rfl⟩<;>simp[w,y]<;>exact D _ (by simp) (by simp) (by simp)
theorem J3 (a b:List Nat)(e:Li a)(f:Li b)(c:a.length<=1000000000)(d:b.length<=1000000000):CQ prog YN [lim a,lim b] (.int .i64 (aL (aa a) (aa b))):=fun _=>wM Sees.lim Sees.lim e f c d
theorem Um {x y:Nat}:aL x y<0↔x<y:=by unfold aL;split<;>(try split)<;>omega
theorem Ko {x y:Nat}:aL x y=0↔x=y:=by unfold aL;split<;>(try split)<;>omega
theorem KT {H:ab}{c d:V}{a b:List Nat}(i:Sees c a H)(j:Sees d b H)(g:Li a)(h:Li b)(e:a.length<=1000000000)(f:b.length<=1000000000):Ev prog (.call q4w [c,d] H) (.ret (.bool (decide (aa a<aa b))) H):=by
 refine iM rfl ?_;simp;refine bW rfl rfl rfl (wM i j g h e f) ?_;simp[Um]
end Go.Abs.W
namespace Go.Abs.W
set_option maxHeartbeats 4000000
theorem tO (a:List Nat)(L:a.length<=1000000)(v:Li a):CQ prog q4x [lim a] (.int .i64 (ac (aa a))):=by
 refine ap rfl fun H=>?_
 simp[lim];have A:IntKind.i64.wrap ((a.length:Int)-1)=(a.length:Int)-1:=by rw[wrap_i64]<;>omega
 refine e9 (fun k E h=>h=H/\E 0=lim a/\k<=a.length/\E 3=.int .i64 ((k:Int)-1)/\aa (a.drop k)=0) a.length ?_ ?_
 ·simp[lim,A,aa]
 ·rintro k E h ⟨rfl,l,O,m,q⟩;refine b9 ?_;simp only[lim]at l;rcases k with _|k
  ·have hz:aa a=0:=by simpa using q
   simp[Db,m,hz,iG]
  ·have r:(k+1:Int)-1=k:=by omega
   have x:(0:Int)<=k:=by omega
   have b:k<a.length:=by omega
   have B:IntKind.i64.wrap ((k:Int)-1)=(k:Int)-1:=by rw[wrap_i64]<;>omega
   by_cases g:a[k]=0
   ·simp[Db,l,m,r,x,b,g,u32,B];refine⟨k,by omega,by simp[lim],by omega,rfl,?_⟩;rw[fH,ce b,g,q]
   ·have w:a[k]<4294967296:=v _ (Vy b);have s:IntKind.i64.wrap (32*(k:Int))=((32*k:Nat):Int):=by rw[wrap_i64]<;>omega
    have I:ac (aa a)=32*k+ac a[k]:=by
     rw[kJ a k,fH,q,ce b,WS,VF,XP,VE,bB];have n:=bz (v.take k);have D:4294967296^(a.take k).length<=4294967296^k:=Vg (by omega) (by simp;omega);rw[bB k]at D;rw[kg g (by omega)];omega
    have⟨N,G⟩:∃N,N=32*k:=⟨_,rfl⟩
    rw[<-G]at s I;simp[Db,l,m,r,x,b,g,u32,s];have J:=tG w;refine aJ (fun i E d=>d=h/\∃y,y<4294967296/\E 5=.int .u32 (y:Nat)/\E 4=.int .i64 ((N+i:Nat):Int)/\ac y+i=ac a[k]) (ac a[k]) ?_ ?_
    ·simp;exact⟨a[k],w,rfl,rfl⟩
    ·rintro i E d hi ⟨rfl,y,P,n,f,p⟩;by_cases e:y=0
     ·subst e;have:i=ac a[k]:=by rw[iG]at p;omega
      have⟨M,hM⟩:∃M,M=N+i:=⟨_,rfl⟩
      rw[<-hM]at f;have o:ac (aa a)=M:=by omega
      simp[IX,n,f,o]
     ·have u:(0:Int)<y:=by omega
      have c:0<y:=by omega
      have t:cH .shr .u32 (y:Int) 1=some (.int .u32 ((y/2:Nat):Int)):=fm y 1 (by omega);have⟨z,hz⟩:∃z,z=y/2:=⟨_,rfl⟩
      rw[<-hz]at t;have K:=Ak e;rw[<-hz]at K;have⟨M,hM⟩:∃M,M=N+i:=⟨_,rfl⟩
      have⟨j,F⟩:∃j,j=N+(i+1):=⟨_,rfl⟩
      have C:IntKind.i64.wrap ((M:Int)+1)=(j:Int):=by rw[wrap_i64]<;>omega
      rw[<-hM]at f;simp[IX,n,f,c,t,C];exact⟨by omega,z,by omega,rfl,by omega,by omega⟩
theorem J2 (a b:List Nat)(ha:a.length<=1000000)(hb:b.length<=1000000)(G:Li a)(I:Li b):CQ prog q8z [lim a,lim b] (lim (aB (aa a+aa b))):=by
 refine ap rfl fun H=>?_
 simp[lim];have⟨n,hn⟩:∃n,n=max a.length b.length:=⟨_,rfl⟩
 have q:(if a.length<b.length then(b.length:Int)else a.length)=n:=by split<;>omega
 refine aJ (fun i E u=>E 0=lim a/\E 1=lim b/\E 7=.int .i64 i/\∃c o,c<2/\(i<=n\/c=0)/\E 6=.int .u64 (c:Nat)/\Out H u (E 5) 1 (o.map u32)/\o.length=i/\Li o /\
  aa o+4294967296^i*c=aa (a.take i)+aa (b.take i)) (n+1) ?_ ?_
 ·simp[lim];exact⟨0,by omega,rfl,[],.nil,rfl,by intro x Z;simp at Z,by simp[aa]⟩
 ·rintro i E u hi ⟨h,d,f,c,o,hc,U,m,B,Y,lo,F⟩;have fin:c=0->n<=i->aa o=aa a+aa b:=by
   rintro rfl W;rw[eX (l:=a) (by omega),eX (l:=b) (by omega)]at F;omega
  have da:=dz G i;have db:=dz I i;have J:=tg a G i;have K:=tg b I i;have⟨T,hT⟩:∃T,T=c+aw a i+aw b i:=⟨_,rfl⟩
  have st:=AY Y F hT;have⟨L,Q⟩:∃L,L=T%4294967296:=⟨_,rfl⟩
  have⟨C,P⟩:∃C,C=T/4294967296:=⟨_,rfl⟩
  have f6:aR .and .u64 (T:Int) 4294967295=some ((T%4294967296:Nat):Int):=kh T (by omega);have f7:cH .shr .u64 (T:Int) 32=some (.int .u64 ((T/4294967296:Nat):Int)):=cf T 32 (by omega);rw[<-Q]at f6 st;rw[<-P]at f7 st;have f8:IntKind.u32.wrap (L:Int)=L:=eN _ (by omega);obtain⟨v',p,v,s⟩:=B.one L (by omega);have w:IntKind.i64.wrap ((i:Int)+1)=((i+1:Nat):Int):=by rw[wrap_i64]<;>omega
  have M:IntKind.u64.wrap ((aw a i:Int)+aw b i)=(aw a i:Int)+aw b i:=by rw[ee]<;>omega
  have N:IntKind.u64.wrap ((aw a i:Int)+aw b i+c)=T:=by rw[ee]<;>omega
  have z:i<=n->(i<n\/c=1)->∃c,c<2/\(i+1<=n\/c=0)/\(C:Int)=(c:Nat)/\∃o,Out H p v' 1 (List.map u32 o)/\o.length=i+1/\Li o/\aa o+4294967296^(i+1)*c=aa (a.take (i+1))+aa (b.take (i+1)):=by
   intro d j;refine⟨C,by omega,?_,rfl,o++[L],s,by simp;omega,lo.append (by intro y hy;simp at hy;omega),st⟩;rcases Vm i n with A|A
   ·exact .inl A
   ·right;rw[kd (by omega),kd (by omega)]at hT;omega
  simp only[lim]at h d;rcases Vm i n with j|j
  ·have e:(i:Int)<n:=by omega
   simp[C0,h,d,f,q,j];refine zq J ?_;simp[d,f];refine zq K ?_;simp[h,d,m,f,M,N,f6,f7,f8,w,v,lim];exact⟨by omega,z (by omega) (.inl j)⟩
  ·have e:¬i<n:=by omega
   by_cases k:c=0
   ·have hv:=fin k j;subst k;simp[C0,h,d,m,f,q,e];obtain⟨H3,t,O⟩:=B.prep (g:=u7) rfl;refine bt rfl rfl O (ng o (by omega)) ?_;rw[eh lo,hv];simp[jn t,lim]
   ·have D:i=n:=by omega
    have S:(0:Int)<c:=by omega
    have r:0<c:=by omega
    simp[C0,h,d,m,f,q,e,r];refine zq J ?_;simp[d,f];refine zq K ?_;simp[h,d,m,f,M,N,f6,f7,f8,w,v,lim];exact⟨by omega,z (by omega) (.inr (by omega))⟩
theorem Ke (a b:List Nat)(ha:a.length<=1000000)(hb:b.length<=a.length)(w:Li a)(z:Li b)(S:aa b<=aa a):CQ prog q8w [lim a,lim b] (lim (aB (aa a-aa b))):=by
 refine ap rfl fun H=>?_
 simp[lim];refine aJ (fun i E s=>E 0=lim a/\E 1=lim b/\E 7=.int .i64 i/\∃c o,c<2/\E 6=.int .u64 (c:Nat)/\Out H s (E 5) 1 (o.map u32)/\o.length=i/\Li o /\
  aa o+aa (b.take i)=aa (a.take i)+4294967296^i*c) a.length ?_ ?_
 ·simp[lim];exact⟨0,by omega,rfl,[],.nil,rfl,by intro x U;simp at U,by simp[aa]⟩
 ·rintro i E s hi ⟨d,h,e,c,o,P,K,t,u,lo,v⟩;simp only[lim]at d h;rcases Vm i a.length with j|j
  ·have A:=dz w i;have B:=dz z i;have Y:=tg a w i;have Z:=tg b z i;have⟨T,hT⟩:∃T,T=aw a i+4294967296-(c+aw b i):=⟨_,rfl⟩
   have n:T+(c+aw b i)=aw a i+4294967296:=by omega
   obtain⟨st,m⟩:=q55 u v P A B n;have⟨L,O⟩:∃L,L=T%4294967296:=⟨_,rfl⟩
   have⟨C,M⟩:∃C,C=T/4294967296:=⟨_,rfl⟩
   have f6:aR .and .u64 (T:Int) 4294967295=some ((T%4294967296:Nat):Int):=kh T (by omega);have f7:cH .shr .u64 (T:Int) 32=some (.int .u64 ((T/4294967296:Nat):Int)):=cf T 32 (by omega);rw[<-O]at f6 st;rw[<-M]at f7 st m;have f8:IntKind.u32.wrap (L:Int)=L:=eN _ (by omega);have f9:IntKind.u64.wrap (1-(C:Int))=((1-C:Nat):Int):=by rw[ee]<;>omega
   have⟨D,N⟩:∃D,D=1-C:=⟨_,rfl⟩
   rw[<-N]at f9 st;obtain⟨v',f,F,q⟩:=t.one L (by omega);have I:IntKind.i64.wrap ((i:Int)+1)=((i+1:Nat):Int):=by rw[wrap_i64]<;>omega
   have J:∃c,c<2/\(D:Int)=(c:Nat)/\∃o,Out H f v' 1 (List.map u32 o)/\o.length=i+1/\Li o/\aa o+aa (b.take (i+1))=aa (a.take (i+1))+4294967296^(i+1)*c:=
    ⟨D,by omega,rfl,o++[L],q,by simp;omega,lo.append (by intro y W;simp at W;omega),st⟩
   have t2:IntKind.u64.wrap ((aw a i:Int)+4294967296)=(aw a i:Int)+4294967296:=by rw[ee]<;>omega
   have t3:IntKind.u64.wrap ((aw a i:Int)+4294967296-aw b i)=(aw a i:Int)+4294967296-aw b i:=by rw[ee]<;>omega
   have t4:IntKind.u64.wrap ((aw a i:Int)+4294967296-aw b i-c)=T:=by rw[ee]<;>omega
   simp[H4,d,e,j];refine zq Y ?_;simp[h,e,t2];refine zq Z ?_;simp[d,h,K,e,t3,t4,f6,f7,f8,f9,I,F,lim];exact J
  ·have k:¬i<a.length:=by omega
   have Q:i=a.length:=by omega
   simp[H4,d,e,k];obtain⟨H3,r,G⟩:=t.prep (g:=u7) rfl;refine bt rfl rfl G (ng o (by omega)) ?_;have p:=bz lo;rw[eX j,eX (l:=b) (by omega)]at v;rw[u]at p;have hv:aa o=aa a-aa b:=by
    rcases Wu c with d|d
    ·subst d;omega
    ·have:c=1:=by omega
     subst this;omega
   rw[eh lo,hv];simp[jn r,lim]
end Go.Abs.W
namespace Go.Abs.W
set_option maxHeartbeats 4000000
theorem D0 (a c s:Nat)(h:a%2^s=0)(g:c<2^s)(b:a<2^32)(d:c<2^32):aR .or .u32 (a:Int) (c:Int)=some ((a+c:Nat):Int)/\aR .or .u32 (c:Int) (a:Int)=some ((a+c:Nat):Int):=by
 have e:a |||c=a+c:=by
  have:=aav g (a/2^s);rw[show 2^s*(a/2^s)=a by have:=Wy a (2^s);omega]at this;exact this.symm
 have f:a |||c<2^32:=abJ b d;constructor
 ·show some (IntKind.u32.wrap ((BitVec.ofInt 32 (a:Int) |||BitVec.ofInt 32 (c:Int)).toNat:Int))=_;rw[abh,mQ,mQ,VO b,VO d,eN _ f,e]
 ·show some (IntKind.u32.wrap ((BitVec.ofInt 32 (c:Int) |||BitVec.ofInt 32 (a:Int)).toNat:Int))=_;rw[abh,mQ,mQ,VO b,VO d,abQ,eN _ f,e]
theorem q5a {H T:ab}(l:List Nat):prep prog u7 (H++some ⟨1,l.map u32,true,true⟩ :: T) [.ref H.length 1 0 l.length]=some ([lim l],H++some ⟨1,l.map u32,true,false⟩ :: T):=by
 refine WZ (b:=ah _ _) rfl ?_;simp[ah,aF,gk,lim,VC]
theorem q7q {l:List Nat}{i:Nat}(b:Li l)(h:aa l<4294967296^i):aw l i=0:=by
 have a:=(HC b h).2;rw[fH]at a;omega
theorem QY {x s:Nat}(d:s<32)(c:x<4294967296):x*2^s/4294967296<2^s/\x*2^s%4294967296%2^s=0/\x*2^s<2^64:=by
 have a:2^s<=2^31:=Vg (by omega) (by omega);have b:=Vl s;refine⟨?_,?_,?_⟩
 ·rw[VW (by omega),VE];exact Nat.mul_lt_mul_of_pos_left c b
 ·have e:4294967296=2^s*2^(32-s):=by rw[<-Vs,show s+(32-s)=32 by omega]
  rw[e,abm,Yb]
 ·have:x*2^s<=4294967295*2^31:=Wi (by omega) a;omega
theorem sD (a:List Nat)(n:Nat)(ha:a.length<=500000)(la:Li a)(hn:n<=10000000):CQ prog q8y [lim a,.int .i64 n] (lim (aB (aa a*2^n))):=by
 refine ap rfl fun H=>?_
 simp;refine ak rfl rfl rfl (ng a (by omega)) ?_;have O:=nu a;rw[eh la]at O ⊢;have lx:=aY (aa a);have vx:=(aP (aa a)).symm;generalize aB (aa a)=x at *
 rw[vx];have⟨q,hq'⟩:∃q,q=n/32:=⟨_,rfl⟩
 have⟨s,hs⟩:∃s,s=n%32:=⟨_,rfl⟩
 have q1:(n:Int)/32=q:=by omega
 have s1:(n:Int).tmod 32=s:=by rw[VZ (by omega)];omega
 have u:s<32:=by omega
 have U:IntKind.i64.wrap (q:Int)=q:=by rw[wrap_i64]<;>omega
 have⟨N,hN⟩:∃N,N=q+x.length+1:=⟨_,rfl⟩
 have e2:IntKind.i64.wrap ((q:Int)+x.length)=(q:Int)+x.length:=by rw[wrap_i64]<;>omega
 have e3:IntKind.i64.wrap ((q:Int)+x.length+1)=(N:Int):=by rw[wrap_i64]<;>omega
 have f4:N*4<=281474976710656/\N<=9223372036854775807:=by omega
 have e:aa x*2^n=4294967296^q*(aa x*2^s):=by
  rw[show n=32*q+s by omega,Vs,<-bB,WM]
 simp[lim,q1,U,e2,e3,f4];refine aJ (fun i E T=>∃l,T=H++[some ⟨1,l.map u32,true,true⟩]/\l.length=N/\Li l/\E 0=lim x/\E 1=.int .i64 n/\E 5=.ref H.length 1 0 N/\E 6=.int .i64 i /\
  aw l (q+i)<2^s/\l.drop (q+i+1)=List.replicate (N-(q+i+1)) 0/\aa (l.take (q+i+1))=4294967296^q*(aa (x.take i)*2^s)) x.length ?_ ?_
 ·refine⟨List.replicate N 0,by rw[nw],by simp,mO,by simp[lim],by simp,by simp,by simp,?_,by simp,by simp[aa,qW]⟩;have:aw (List.replicate N 0) (q+0)=0:=by simp only[aw,Yp];split<;>rfl
  rw[this];exact Vl s
 ·rintro i E T hi ⟨l,rfl,hl,ll,F,h1,W,Y,hd,hz,hv⟩;rcases Vm i x.length with k|hge
  ·simp only[lim]at F;have g1:IntKind.i64.wrap ((i:Int)+1)=((i+1:Nat):Int):=by rw[wrap_i64]<;>omega
   have Q:x[i]<4294967296:=lx _ (Vy k);have⟨j,hj⟩:∃j,j=q+i:=⟨_,rfl⟩
   have⟨b,K⟩:∃b,b=q+i+1:=⟨_,rfl⟩
   rw[<-K]at hv hz;rw[<-hj]at hd;have g:j<l.length:=by omega
   have t:b<l.length:=by omega
   have M:j<N:=by omega
   have r:b<N:=by omega
   have g2:IntKind.i64.wrap ((i:Int)+q)=(j:Int):=by rw[wrap_i64]<;>omega
   have g3:IntKind.i64.wrap ((j:Int)+1)=(b:Int):=by rw[wrap_i64]<;>omega
   obtain⟨m,o,y⟩:=QY u Q;have t1:IntKind.u64.wrap (x[i]:Int)=x[i]:=cJ _ (by omega);have⟨P,I⟩:∃P,P=x[i]*2^s:=⟨_,rfl⟩
   have t2:cH .shl .u64 (x[i]:Int) (s:Int)=some (.int .u64 (P:Int)):=by rw[eU _ _ (by omega) (by omega),I]
   rw[<-I]at m o y;have t3:aR .and .u64 (P:Int) 4294967295=some ((P%4294967296:Nat):Int):=kh P y;have t4:cH .shr .u64 (P:Int) 32=some (.int .u64 ((P/4294967296:Nat):Int)):=cf P 32 (by omega);have f:=Wy P 4294967296;have d:P%4294967296<4294967296:=WG _ (by omega);have⟨L,hL⟩:∃L,L=P%4294967296:=⟨_,rfl⟩
   have⟨C,hC⟩:∃C,C=P/4294967296:=⟨_,rfl⟩
   rw[<-hL]at t3 o f d;rw[<-hC]at t4 m f;have h2s:2^s<=2^31:=Vg (by omega) (by omega);have t5:IntKind.u32.wrap (L:Int)=L:=eN _ d;have t6:IntKind.u32.wrap (C:Int)=C:=eN _ (by omega);have p:L+aw l j<4294967296:=by
    have B:4294967296=2^s*2^(32-s):=by rw[<-Vs,show s+(32-s)=32 by omega]
    have G:L=2^s*(L/2^s):=by have:=Wy L (2^s);omega
    have e7:L/2^s<2^(32-s):=by
     rw[VW (Vl s),VE,<-B];exact d
    have e8:2^s*(L/2^s+1)<=2^s*2^(32-s):=VN _ e7;rw[<-B,VM,<-G]at e8;omega
   have S:=(D0 L (aw l j) s o hd (by omega) (by omega)).2;have⟨D,Z⟩:∃D,D=L+aw l j:=⟨_,rfl⟩
   rw[<-Z]at S p;have st:aa (((l.set j D).set b C).take (q+(i+1)+1))=4294967296^q*(aa (x.take (i+1))*2^s):=by
    rw[show q+(i+1)+1=b+1 by omega,kM (by simp;omega),show b=j+1 by omega,kM g,VH];have B:aa (l.take j)+4294967296^j*aw l j=4294967296^q*(aa (x.take i)*2^s):=by
     rw[<-fI,<-hv];congr 2;omega
    rw[fI,ce k,VI,VM,<-B,Z,Vt (4294967296^i),<-I,<-Vt,<-Vs,<-hj,<-f];have G:4294967296^j*4294967296*C=4294967296^j*(4294967296*C):=Vt ..;rw[G,VM,VM];omega
   have z:((l.set j D).set b C).drop (q+(i+1)+1)=List.replicate (N-(q+(i+1)+1)) 0:=by
    rw[WU (by omega),WU (by omega)];have:=W2 (List.drop 1) hz;rw[Wj,List.drop_replicate]at this;rw[show q+(i+1)+1=b+1 by omega,this];congr 1
   have A:aw ((l.set j D).set b C) (q+(i+1))<2^s:=by
    rw[show q+(i+1)=b by omega,Dx (by simp;omega)];exact m
   have go:∃c:List Nat,H++[some ⟨1,((List.map u32 l).set j (V.int IntKind.u32 D)).set b (V.int IntKind.u32 C),true,true⟩]=H++[some ⟨1,c.map u32,true,true⟩]/\c.length=N/\Li c/\aw c (q+(i+1))<2^s/\c.drop (q+(i+1)+1)=List.replicate (N-(q+(i+1)+1)) 0/\aa (c.take (q+(i+1)+1))=4294967296^q*(aa (x.take (i+1))*2^s):=
    ⟨(l.set j D).set b C,by rw[uK,uK],by simp[hl],Li.set (Li.set ll p) (by omega),A,z,st⟩
   obtain⟨c,y1,y2,y3,y4,y5,y6⟩:=go;rw[ce g]at S;clear st z A;have w:∀(v:V) (h:b<((List.map u32 l).set j v).length),((List.map u32 l).set j v)[b]=V.int IntKind.u32 (l[b]:Nat):=by
    intro v h;rw[List.getElem_set_ne (by omega),XL];rfl
   simp at y1;simp[HY,F,h1,W,Y,k,u32,t1,t2,t3,t4,t5,t6,S,s1,q1,U,g1,g2,g3,M,r,g,t,w,lim];exact⟨c,y1,y2,y3,y4,y5,y6⟩
  ·have J:i=x.length:=by omega
   subst J;rw[eX (l:=x) (Vo _),eX (l:=l) (by omega)]at hv;simp only[lim]at F;simp[HY,F,W,Y];refine bt (args:=[.ref H.length 1 0 l.length]) rfl (by simp[hl]) (q5a l) (ng l (by omega)) ?_;rw[eh ll,hv,e];simp[lim]
theorem Kd (a:List Nat)(n:Nat)(ha:a.length<=500000)(d:Li a)(hn:n<=10000000):CQ prog q8x [lim a,.int .i64 n] (lim (aB (aa a/2^n))):=by
 refine ap rfl fun H=>?_
 have⟨q,hq'⟩:∃q,q=n/32:=⟨_,rfl⟩
 have⟨s,hs⟩:∃s,s=n%32:=⟨_,rfl⟩
 have q1:(n:Int)/32=q:=by omega
 have s1:(n:Int).tmod 32=s:=by rw[VZ (by omega)];omega
 have k:s<32:=by omega
 have O:IntKind.i64.wrap (q:Int)=q:=by rw[wrap_i64]<;>omega
 have⟨x,c⟩:∃x,x=a.drop q:=⟨_,rfl⟩
 have G:Li x:=by rw[c];exact d.drop _
 have hxl:x.length=a.length-q:=by rw[c];simp
 have e:aa a/2^n=aa x/2^s:=by
  rw[c,show n=32*q+s by omega,Vs,<-bB,<-Ww,mP d]
 rw[e];simp[lim,q1,O];refine aJ (fun i E z=>E 0=lim a/\E 1=.int .i64 n/\E 6=.int .i64 ((q+i:Nat):Int)/\∃o,Out H z (E 5) 1 (o.map u32)/\o.length=i/\Li o/\aa o=aa x/2^s%4294967296^i) x.length ?_ ?_
 ·simp[lim];exact⟨[],.nil,rfl,by intro x c;simp at c,by simp[aa,XO]⟩
 ·rintro i E z hi ⟨f,U,h,o,C,ho,lo,hv⟩;simp only[lim]at f;have⟨j,F⟩:∃j,j=q+i:=⟨_,rfl⟩
  have⟨b,t⟩:∃b,b=q+(i+1):=⟨_,rfl⟩
  rw[<-F]at h;have A:IntKind.i64.wrap ((j:Int)+1)=(b:Int):=by rw[wrap_i64]<;>omega
  rcases Vm j a.length with B|B
  ·have J:aw x i=aw a j:=by rw[c,pP,F]
   have K:aw x (i+1)=aw a b:=by rw[c,pP,t]
   have da:=dz d j;have db:=dz d b;have st:=q5j (M:=aa x) (s:=s) o ho hv;rw[DW G i s k,J,K]at st;have⟨T,hT⟩:∃T,T=aw a j+4294967296*aw a b:=⟨_,rfl⟩
   have p:T<2^64:=by omega
   have f4:cH .shr .u64 (T:Int) (s:Int)=some (.int .u64 ((T/2^s:Nat):Int)):=cf T s (by omega);rw[<-hT]at st;have⟨Y,D⟩:∃Y,Y=T/2^s:=⟨_,rfl⟩
   have r:Y<2^64:=by rw[D];exact V4 (VY _ _) p
   rw[<-D]at f4 st;have f5:=kh Y r;have⟨L,W⟩:∃L,L=Y%4294967296:=⟨_,rfl⟩
   rw[<-W]at f5 st;have f6:IntKind.u32.wrap (L:Int)=L:=eN _ (by omega);obtain⟨v',l,N,u⟩:=C.one L (by omega);have I:cH .shl .u64 (aw a b:Int) 32=some (.int .u64 ((aw a b*2^32:Nat):Int)):=eU _ 32 (by omega) (by omega);have⟨P,Z⟩:∃P,P=aw a b*2^32:=⟨_,rfl⟩
   rw[<-Z]at I;have t4:IntKind.u64.wrap ((aw a j:Int)+P)=(T:Int):=by rw[ee]<;>omega
   have S:∃o,Out H l v' 1 (List.map u32 o)/\o.length=i+1/\Li o/\aa o=aa x/2^s%4294967296^(i+1):=
    ⟨o++[L],u,by simp;omega,lo.append (by intro y hy;simp at hy;omega),st⟩
   simp[HZ,f,h,B];refine ak rfl rfl rfl (tg a d j) ?_;simp[f,h,A];refine ak rfl rfl rfl (tg a d b) ?_;simp[f,U,h,A,I,t4,s1,f4,f5,f6,N,lim];exact⟨by omega,by omega,S⟩
  ·have m:¬j<a.length:=by omega
   simp[HZ,f,h,m];obtain⟨H3,v,Q⟩:=C.prep (g:=u7) rfl;refine bt rfl rfl Q (ng o (by omega)) ?_;have w:aa o=aa x/2^s:=by
    have:=bz G;rw[hv,VO];rw[show i=x.length by omega];exact V4 (VY _ _) this
   rw[eh lo,w];simp[jn v,lim]
end Go.Abs.W
namespace Go.Abs.W
set_option maxHeartbeats 4000000
theorem Kw {M N B b:Nat}(c:0<B)(hM:M=2*N+b)(j:b<=1) :
 (2*(N%B)+b<B->M%B=2*(N%B)+b/\M/B=2*(N/B))/\(B<=2*(N%B)+b->M%B=2*(N%B)+b-B/\M/B=2*(N/B)+1):=by
 have e:=Wy N B;have i:=WG N c;have⟨q,g⟩:∃q,q=N/B:=⟨_,rfl⟩
 have⟨r,d⟩:∃r,r=N%B:=⟨_,rfl⟩
 rw[<-g,<-d]at e;rw[<-d]at i;rw[<-g,<-d];constructor
 ·intro h;have a:M=B*(2*q)+(2*r+b):=by rw[WM];omega
  rw[a];exact⟨by rw[XT,VO h],by rw[XE c,We h,VF]⟩
 ·intro h;have a:M=B*(2*q+1)+(2*r+b-B):=by rw[VM,WM];omega
  rw[a];have f:2*r+b-B<B:=by omega
  exact⟨by rw[XT,VO f],by rw[XE c,We f,VF]⟩
theorem Ku {o:List Nat}{q t:Nat}(lo:Li o)(e:t<=32)(h:aa o%2^(32*q+t)=0):aw o q%2^t=0:=by
 have a:aa o/4294967296^q%2^t=0:=by
  rw[Vs,<-bB,aak]at h;have d:0<4294967296^q:=Xs (by omega);rcases Wu (aa o/4294967296^q%2^t)with b|b
  ·exact b
  ·have:=Xj d b;omega
 rw[mP lo,fH]at a;have c:4294967296=2^t*2^(32-t):=by rw[<-Vs,show t+(32-t)=32 by omega]
 rw[c,Vt,XA]at a;exact a
theorem PM (s:Nat)(d:s<32):cH .shl .u32 1 (s:Int)=some (.int .u32 ((2^s:Nat):Int)):=by
 have a:¬((s:Int)<0):=by omega
 have b:Nat.min s 32=s:=WW (by omega);have c:(1:Int)*2^s=((2^s:Nat):Int):=by simp
 have h:2^s<2^32:=WA (by omega) d;simp only[cH,Vk a,Ul,W3,b,c];rw[eN _ h]
theorem PL (x:Nat):cH .shl .u32 (x:Int) 1=some (.int .u32 ((2*x%4294967296:Nat):Int)):=by
 have a:(x:Int)*2^(Nat.min (Int.toNat 1) 32)=((2*x:Nat):Int):=by
  show(x:Int)*2^1=_;omega
 simp only[cH,Ul];rw[Vk (by omega),a,nJ]
theorem Nv {n0:Nat}{Q:AX->aA->ab->Prop}{K:List Fr}{E:aA}{H:ab}(r:List Nat)(n b:Nat)(X:Option Blk)(hr:r.length=n)(hn:n<=1000000)(lr:Li r)(hb:b<=1)
 (j:E 7=.ref (H.length+1) 1 0 n) (U:E 9=.int .u32 (b:Nat)) (o:E 10=.int .i64 0)
 (hQ:∀f l c,l.length=n->Li l->aa l+4294967296^n*c=2*aa r+b->f 0=E 0->f 1=E 1->f 6=E 6->f 7=E 7->f 8=E 8->WP prog n0 Q K (.exit 2) f (H++[X,some ⟨1,l.map u32,true,true⟩])) :
 WK prog n0 (.loop Di) K E (H++[X,some ⟨1,r.map u32,true,true⟩]) Q:=by
 refine aJ (fun k d w=>∃l c,w=H++[X,some ⟨1,l.map u32,true,true⟩]/\l.length=n/\Li l/\c<=1/\d 0=E 0/\d 1=E 1/\d 6=E 6/\d 7=E 7/\d 8=E 8/\d 9=.int .u32 (c:Nat)/\d 10=.int .i64 k/\l.drop k=r.drop k /\
  aa (l.take k)+4294967296^k*c=2*aa (r.take k)+b) n ?_ ?_
 ·exact⟨r,b,rfl,hr,lr,hb,rfl,rfl,rfl,rfl,rfl,U,o,rfl,by simp[aa]⟩
 ·rintro k d w hk ⟨l,c,rfl,G,ll,hc,A,B,D,m,F,T,g,h,hv⟩;rw[<-m]at j;rcases Vm k n with u|hge
  ·have e:k<l.length:=by omega
   have dl:=dz ll k;have S:IntKind.i64.wrap ((k:Int)+1)=((k+1:Nat):Int):=by rw[wrap_i64]<;>omega
   have s:aw r k=aw l k:=by
    have q1:aw l k=aw (l.drop k) 0:=by simp[aw]
    have q2:aw r k=aw (r.drop k) 0:=by simp[aw]
    rw[q1,q2,h]
   have st:=UL (N:=aa (l.take k)) (X:=aa (r.take k)) (Y:=aa (r.take k)+b) (P:=4294967296^k) (x:=aw l k) (y:=aw l k) (c:=c) (by omega);rw[<-kM e,<-VH]at st;have a:aa ((l.set k ((aw l k+aw l k+c)%4294967296)).take (k+1))+4294967296^(k+1)*((aw l k+aw l k+c)/4294967296)=2*aa (r.take (k+1))+b:=by
    rw[st,fI,s];omega
   have i:∀z,(l.set k z).drop (k+1)=r.drop (k+1):=by
    intro z;rw[WU (by omega)];have:=W2 (List.drop 1) h;rwa[Wj,Wj]at this
   rw[ce e]at dl a;have I:=PL l[k];have v:=(D0 (2*l[k]%4294967296) c 1 (by omega) (by omega) (by omega) (by omega)).1;have J:cH .shr .u32 (l[k]:Int) 31=some (.int .u32 ((l[k]/2147483648:Nat):Int)):=fm l[k] 31 (by omega);have M:(l[k]+l[k]+c)%4294967296=2*l[k]%4294967296+c:=by omega
   have O:(l[k]+l[k]+c)/4294967296=l[k]/2147483648:=by omega
   have p:2*l[k]%4294967296+c<4294967296:=by omega
   rw[M,O]at a;have⟨W,hW⟩:∃W,W=2*l[k]%4294967296:=⟨_,rfl⟩
   rw[<-hW]at I v a p;have⟨L,q⟩:∃L,L=W+c:=⟨_,rfl⟩
   rw[<-q]at v a p;have⟨C,Z⟩:∃C,C=l[k]/2147483648:=⟨_,rfl⟩
   rw[<-Z]at J a;simp[Di,j,T,g,u,e,u32,I,v,J,S];exact⟨l.set k L,by simp[u32],by simp[G],Li.set ll p,C,by omega,A,B,D,by rw[<-m,j],F,rfl,i L,a⟩
  ·have t:k=n:=by omega
   subst t;rw[eX (l:=l) (by omega),eX (l:=r) (by omega)]at hv;simp[Di,j,g];exact hQ _ l c G ll hv (by simp[A]) (by simp[B]) (by simp[D]) (by simp[m]) (by simp[F])
theorem Nw {n0:Nat}{Q:AX->aA->ab->Prop}{K:List Fr}{E:aA}{H:ab}(r y:List Nat)(n:Nat)(X:Option Blk)(U:r.length=n)(hn:n<=1000000)(lr:Li r)(G:Li y)
 (j:E 1=lim y) (f:E 7=.ref (H.length+1) 1 0 n) (q:E 12=.int .u64 0) (s:E 13=.int .i64 0)
 (O:∀e l c,l.length=n->Li l->c<=1->aa l+aa (y.take n)=aa r+4294967296^n*c->e 0=E 0->e 1=E 1->e 6=E 6->e 7=E 7->e 8=E 8->WP prog n0 Q K (.exit 4) e (H++[X,some ⟨1,l.map u32,true,true⟩])) :
 WK prog n0 (.loop Dj) K E (H++[X,some ⟨1,r.map u32,true,true⟩]) Q:=by
 refine aJ (fun k b w=>∃l c,w=H++[X,some ⟨1,l.map u32,true,true⟩]/\l.length=n/\Li l/\c<=1/\b 0=E 0/\b 1=E 1/\b 6=E 6/\b 7=E 7/\b 8=E 8/\b 12=.int .u64 (c:Nat)/\b 13=.int .i64 k/\l.drop k=r.drop k /\
  aa (l.take k)+aa (y.take k)=aa (r.take k)+4294967296^k*c) n ?_ ?_
 ·exact⟨r,0,rfl,U,lr,by omega,rfl,rfl,rfl,rfl,rfl,q,s,rfl,by simp[aa]⟩
 ·rintro k b w hk ⟨l,c,rfl,F,ll,P,x,m,A,p,B,o,d,g,hv⟩;rw[<-p]at f;rw[<-m]at j;rcases Vm k n with h|S
  ·have a:k<l.length:=by omega
   have dl:=dz ll k;have dy:=dz G k;have Z:=tg y G k;have I:IntKind.i64.wrap ((k:Int)+1)=((k+1:Nat):Int):=by rw[wrap_i64]<;>omega
   have u:aw r k=aw l k:=by
    have W:aw l k=aw (l.drop k) 0:=by simp[aw]
    have Y:aw r k=aw (r.drop k) 0:=by simp[aw]
    rw[W,Y,g]
   have⟨T,hT⟩:∃T,T=aw l k+4294967296-(c+aw y k):=⟨_,rfl⟩
   have st:aa ((l.set k (T%4294967296)).take (k+1))+aa (y.take (k+1))=aa (r.take (k+1))+4294967296^(k+1)*(1-T/4294967296):=by
    rw[kM a,fI,fI,u,VH,Vt];have:4294967296^k*(T%4294967296)+4294967296^k*(c+aw y k)=4294967296^k*aw l k+4294967296^k*(4294967296*(1-T/4294967296)):=by
     rw[<-VM,<-VM]
     congr 1;omega
    rw[VM]at this;omega
   have i:∀z,(l.set k z).drop (k+1)=r.drop (k+1):=by
    intro z;rw[WU (by omega)];have:=W2 (List.drop 1) g;rwa[Wj,Wj]at this
   rw[ce a]at dl hT;have f6:aR .and .u64 (T:Int) 4294967295=some ((T%4294967296:Nat):Int):=kh T (by omega);have f7:cH .shr .u64 (T:Int) 32=some (.int .u64 ((T/4294967296:Nat):Int)):=cf T 32 (by omega);have t:T/4294967296<=1:=by omega
   have⟨L,N⟩:∃L,L=T%4294967296:=⟨_,rfl⟩
   have⟨C,J⟩:∃C,C=T/4294967296:=⟨_,rfl⟩
   rw[<-N]at f6 st;rw[<-J]at f7 st t;have f8:IntKind.u32.wrap (L:Int)=L:=eN _ (by omega);have f9:IntKind.u64.wrap (1-(C:Int))=((1-C:Nat):Int):=by rw[ee]<;>omega
   have⟨D,M⟩:∃D,D=1-C:=⟨_,rfl⟩
   rw[<-M]at f9 st;have t1:IntKind.u64.wrap (l[k]:Int)=l[k]:=cJ _ (by omega);have t2:IntKind.u64.wrap ((l[k]:Int)+4294967296)=(l[k]:Int)+4294967296:=by rw[ee]<;>omega
   have t3:IntKind.u64.wrap ((l[k]:Int)+4294967296-aw y k)=(l[k]:Int)+4294967296-aw y k:=by rw[ee]<;>omega
   have t4:IntKind.u64.wrap ((l[k]:Int)+4294967296-aw y k-c)=T:=by rw[ee]<;>omega
   simp[Dj,j,f,d,h,a,u32,t1,t2];refine zq Z ?_;simp[j,f,o,d,h,a,u32,t3,t4,f6,f7,f8,f9,I];exact⟨l.set k L,by simp[u32],by simp[F],Li.set ll (by omega),D,by omega,x,by rw[<-m,j],A,by rw[<-p,f],B,rfl,i L,st⟩
  ·have v:k=n:=by omega
   subst v;rw[eX (l:=l) (by omega),eX (l:=r) (by omega)]at hv;simp[Dj,f,d];exact O _ l c F ll P hv (by simp[x]) (by simp[m]) (by simp[A]) (by simp[p]) (by simp[B])
end Go.Abs.W
namespace Go.Abs.W
structure DmInv (A B:Nat)(o r:List Nat)(la n k:Nat):Prop where
 lo:o.length=la
 lr:r.length=n
 Lo:Li o
 Lr:Li r
 vr:aa r=A/2^k%B
 vo:aa o=A/2^k/B*2^k
theorem ZH (Z j:Nat):Z*2^(j+1)=2*Z*2^j:=by rw[VH,VE (2^j),<-Vt,VE Z]
theorem M8 {A j:Nat}:A/2^j=2*(A/2^(j+1))+A/2^j%2:=by
 rw[VH,<-Ww];omega
set_option maxHeartbeats 8000000 in
theorem P7 (a b:List Nat)(ha:a.length<=500000)(hb:b.length<=500000)(Y:Li a)(lb:Li b)(h0:0<aa b):CQ prog qzi [lim a,lim b] (.tup [lim (aB (aa a/aa b)),lim (aB (aa a%aa b))]):=by
 refine ap rfl fun H=>?_
 simp;refine ak rfl rfl rfl (ng b (by omega)) ?_;have hyl:=nu b;rw[eh lb]at hyl ⊢;have ly:=aY (aa b);have vy:=(aP (aa b)).symm;generalize aB (aa b)=y at *
 have⟨n,hn⟩:∃n,n=y.length+1:=⟨_,rfl⟩
 have e1:IntKind.i64.wrap ((y.length:Int)+1)=(n:Int):=by rw[wrap_i64]<;>omega
 have f4:n*4<=281474976710656/\n<=9223372036854775807:=by omega
 have f5:a.length*4<=281474976710656/\a.length<=9223372036854775807:=by omega
 have hB:=bz ly;simp[e1,f4,f5,lim];refine ak rfl rfl rfl (tO a (by omega) Y) ?_;have hA:=bz Y;rw[bB]at hA;have hbit:=gD hA;have e2:IntKind.i64.wrap ((ac (aa a):Int)-1)=(ac (aa a):Int)-1:=by rw[wrap_i64]<;>omega
 simp[e2];refine e9 (fun k E H'=>k<=ac (aa a)/\∃o r,H'=H++[some ⟨1,o.map u32,true,true⟩,some ⟨1,r.map u32,true,true⟩]/\DmInv (aa a) (aa b) o r a.length n k /\
  E 0=lim a/\E 1=lim y/\E 6=.ref H.length 1 0 a.length/\E 7=.ref (H.length+1) 1 0 n/\E 8=.int .i64 ((k:Int)-1)) (ac (aa a)) ?_ ?_
 ·refine⟨Vo _,List.replicate a.length 0,List.replicate n 0,by rw[nw,nw],⟨by simp,by simp,mO,mO,?_,?_⟩,by simp[lim],by simp[lim],by simp,by simp,by simp⟩
  ·rw[We (eM _)];simp[qW]
  ·rw[We (eM _)];simp[qW]
 ·rintro k E H' ⟨hk,o,r,rfl,inv,x,h1,h6,h7,W⟩;simp only[lim]at x;refine b9 ?_;have p:=inv.lo;have Q:=inv.lr;rcases k with _|j
  ·have f:=inv.vo;have t:=inv.vr;rw[Yc,aaj]at f t;rw[XN]at f;simp[Jk,h6,W];refine bt (args:=[.ref H.length 1 0 o.length]) rfl (by simp[p]) (q5a o) (ng o (by omega)) ?_;simp[h7];refine bt (args:=[.ref (H.length+1) 1 0 r.length]) (vs:=[lim r]) (H1:=H++[some ⟨1,o.map u32,true,false⟩,some ⟨1,r.map u32,true,false⟩]) rfl (by simp[Q]) (by refine WZ (b:=ah _ _) rfl ?_;simp[ah,aF,gk,lim,VC]) (ng r (by omega)) ?_;rw[eh inv.Lo,eh inv.Lr,f,t];simp[lim]
  ·have e3:(j+1:Int)-1=j:=by omega
   simp only[abi,abj,e3]at W;have p1:(0:Int)<=j:=by omega
   have⟨q,hq⟩:∃q,q=j/32:=⟨_,rfl⟩
   have⟨s,hs⟩:∃s,s=j%32:=⟨_,rfl⟩
   have q1:(j:Int)/32=q:=by omega
   have s1:(j:Int).tmod 32=s:=by rw[VZ (by omega)];omega
   have w1:IntKind.i64.wrap (q:Int)=q:=by rw[wrap_i64]<;>omega
   have w2:IntKind.i64.wrap ((j:Int)-1)=(j:Int)-1:=by rw[wrap_i64]<;>omega
   have i:s<32:=by omega
   have g:q<a.length:=by omega
   have m:=ri Y j;have lq:a[q]<4294967296:=Y _ (Vy g);rw[<-hq,<-hs,ce g]at m;have t1:cH .shr .u32 (a[q]:Int) (s:Int)=some (.int .u32 ((a[q]/2^s:Nat):Int)):=fm _ _ i;have⟨z,hz⟩:∃z,z=a[q]/2^s:=⟨_,rfl⟩
   have hz2:z<2^32:=by rw[hz];exact V4 (VY _ _) lq
   rw[<-hz]at t1 m;have t2:=CE z hz2;have⟨u,hβ⟩:∃u,u=z%2:=⟨_,rfl⟩
   have w:u<=1:=by omega
   rw[<-hβ]at t2 m;have hh:=M8 (A:=aa a) (j:=j);rw[m]at hh;have e:=Kw h0 hh w;have t:=inv.vr;have f:=inv.vo;have K:aa a/2^(j+1)%aa b<aa b:=WG _ h0;rw[<-t]at e K;simp[Jk,x,W,p1,q1,s1,w1,g,u32,t1,t2];refine Nv r n u _ Q (by omega) inv.Lr w (by simp[h7]) (by simp) (by simp) ?_;intro E1 l c hl ll hv g0 G g6 I g8;simp[x]at g0;simp[h1]at G;simp[h6]at g6;simp[h7]at I;simp[W]at g8;have C:aa l=2*aa r+u:=by
    have h9:4294967296^n=4294967296^y.length*4294967296:=by rw[hn];exact VH ..
    rw[<-vy]at hB;rcases Wu c with h|h
    ·rw[h,WS,VF]at hv;exact hv
    ·exfalso;have h10:4294967296^n*1<=4294967296^n*c:=VN _ h;rw[XN,h9]at h10;rw[h9]at hv;generalize 4294967296^y.length*4294967296*c=Z at *
     omega
   have sl:Sees (.ref (H.length+1) 1 0 n) l (H++[some ⟨1,o.map u32,true,true⟩,some ⟨1,l.map u32,true,true⟩]):=.inr ⟨H.length+1,true,by rw[hl],by simp⟩;simp[G,I];refine bW rfl rfl rfl (KT sl (.lim (l:=y)) ll ly (by omega) (by omega)) ?_;rw[C,<-vy];have hle:2*aa r+u<aa b\/aa b<=2*aa r+u:=by omega
   rcases hle with N|hge
   ·obtain⟨m1,m2⟩:=e.1 N;have d:DmInv (aa a) (aa b) o l a.length n j:=⟨p,hl,inv.Lo,ll,by rw[C,m1],by rw[f,m2,ZH]⟩
    simp[N,g0,G,g6,I,g8,w2];exact⟨j,by omega,by omega,o,l,⟨rfl,rfl⟩,d,by simp[lim],rfl⟩
   ·have L:¬(2*aa r+u<aa b):=by omega
    obtain⟨m1,m2⟩:=e.2 hge;simp[L];refine Nw l y n _ hl (by omega) ll ly (by simp[G]) (by simp[I]) (by simp) (by simp) ?_;intro E2 l2 c2 M U hc2 F k0 k1 k6 k7 k8;simp[g0]at k0;simp[G]at k1;simp[g6]at k6;simp[I]at k7;simp[g8]at k8;rw[eX (l:=y) (by omega),<-vy,C]at F;have B:=bz U;rw[M]at B;have hv3:aa l2=2*aa r+u-aa b:=by
     rcases Wu c2 with h|h
     ·rw[h,WS,VF]at F;omega
     ·have:c2=1:=by omega
      rw[this,XN]at F;omega
    have O:q<o.length:=by omega
    have hom:aa o%2^(32*q+(s+1))=0:=by
     rw[f,show 32*q+(s+1)=j+1 by omega,Yb]
    have hdm:=Ku inv.Lo (show s+1<=32 by omega) hom;have hdo:=dz inv.Lo q;have h2s:2^s<2^32:=WA (by omega) i;have J:2^s<2^(s+1):=WA (by omega) (by omega);have t3:=(D0 (aw o q) (2^s) (s+1) hdm J (by omega) h2s).1;have t4:=PM s i;have S:aw o q+2^s<4294967296:=by
     have e5:4294967296=2^(s+1)*2^(31-s):=by rw[<-Vs,show s+1+(31-s)=32 by omega]
     have e6:aw o q=2^(s+1)*(aw o q/2^(s+1)):=by have:=Wy (aw o q) (2^(s+1));omega
     have e7:aw o q/2^(s+1)<2^(31-s):=by
      rw[VW (Vl _),VE,<-e5];exact hdo
     have e8:2^(s+1)*(aw o q/2^(s+1)+1)<=2^(s+1)*2^(31-s):=VN _ e7;rw[<-e5,VM,<-e6]at e8;omega
    have T:aa (o.set q (aw o q+2^s))=aa o+2^j:=by
     have:=uL (v:=aw o q+2^s) O;rw[VM,bB,<-Vs,show 32*q+s=j by omega]at this;omega
    have d:DmInv (aa a) (aa b) (o.set q (aw o q+2^s)) l2 a.length n j:=by
     refine⟨by simp[p],M,Li.set inv.Lo S,U,by rw[hv3,m1],?_⟩;rw[T,f,m2,VI,WH,ZH]
    rw[ce O]at t3 d;have⟨P,hP⟩:∃P,P=2^s:=⟨_,rfl⟩
    rw[<-hP]at t3 t4 d;have⟨D,hD⟩:∃D,D=o[q]+P:=⟨_,rfl⟩
    rw[<-hD]at t3 d;have hqa2:q<a.length:=g;simp[k0,k1,k6,k7,k8,q1,s1,w1,w2,g,p,u32,t3,t4];exact⟨j,by omega,by omega,o.set q D,l2,⟨by simp[u32],by simp⟩,d,by simp[lim],rfl⟩
theorem Rw {H T:ab}(l:List Nat):prep prog uh (H++some ⟨1,l.map u32,true,true⟩ :: T) [.ref H.length 1 0 l.length]=some ([lim l],H++some ⟨1,l.map u32,true,false⟩ :: T):=by
 refine WZ (b:=ah _ _) rfl ?_;simp[ah,aF,gk,lim,VC]
set_option maxHeartbeats 4000000 in
theorem OI (a b:List Nat)(ha:a.length<=500000)(hb:b.length<=500000)(la:Li a)(lb:Li b):CQ prog q2k [lim a,lim b] (lim (aB (aa a*aa b))):=by
 refine ap rfl fun H=>?_
 have⟨n,hn⟩:∃n,n=a.length+b.length+1:=⟨_,rfl⟩
 have f0:IntKind.i64.wrap ((a.length:Int)+b.length)=(a.length:Int)+b.length:=by rw[wrap_i64]<;>omega
 have f1:IntKind.i64.wrap ((a.length:Int)+b.length+1)=(n:Int):=by rw[wrap_i64]<;>omega
 have f4:n*4<=281474976710656/\n<=9223372036854775807:=by omega
 simp[lim,f0,f1,f4];refine aJ (fun i E r=>∃l,r=H++[some ⟨1,l.map u32,true,true⟩]/\l.length=n/\Li l/\E 0=lim a/\E 1=lim b/\E 5=.ref H.length 1 0 n/\E 6=.int .i64 i/\aa l=aa (a.take i)*aa b) a.length ?_ ?_
 ·exact⟨List.replicate n 0,by rw[nw],by simp,mO,by simp[lim],by simp[lim],by simp,by simp,by simp[aa,qW]⟩
 ·rintro i E r hi ⟨l,rfl,hl,ll,o,s,A,u,hv⟩;rcases Vm i a.length with p|hge
  ·simp only[lim]at o s;have g1:IntKind.i64.wrap ((i:Int)+1)=((i+1:Nat):Int):=by rw[wrap_i64]<;>omega
   have lx:=la _ (Vy p);have hz:aw l (i+b.length)=0:=by
    refine q7q ll ?_;rw[hv,Vs];have B:=bz (la.take i);have h9:=bz lb;rw[Xt,WW hi]at B;rcases Wu (aa b)with h|h
    ·rw[h,WS];exact Xj (Xs (by omega)) (Xs (by omega))
    ·exact Ya B h9
   simp[Jj,o,u,p];refine aJ (fun k E r=>∃d c,r=H++[some ⟨1,d.map u32,true,true⟩]/\d.length=n/\Li d/\c<4294967296/\E 0=lim a/\E 1=lim b/\E 5=.ref H.length 1 0 n/\E 6=.int .i64 i/\E 7=.int .u64 (c:Nat)/\E 8=.int .i64 k /\
    d.drop (i+k)=l.drop (i+k)/\aa d+4294967296^(i+k)*c=aa l+4294967296^i*(a[i]*aa (b.take k))) b.length ?_ ?_
   ·exact⟨l,0,by simp,hl,ll,by omega,by simp[o,lim],by simp[s,lim],by simp[A],by simp[u],by simp,by simp,rfl,by simp[aa]⟩
   ·clear o s A u;rintro k E r hk ⟨d,c,rfl,K,z,hc,o,s,A,u,h7,B,y,m⟩;simp only[lim]at o s;have F:aw d (i+k)=aw l (i+k):=by
     have q1:aw d (i+k)=aw (d.drop (i+k)) 0:=by simp[aw]
     have q2:aw l (i+k)=aw (l.drop (i+k)) 0:=by simp[aw]
     rw[q1,q2,y]
    have⟨j,G⟩:∃j,j=i+k:=⟨_,rfl⟩
    rw[<-G]at F y m;have I:j<n:=by omega
    have g:j<d.length:=by omega
    have dl:=dz z j;have Y:IntKind.i64.wrap ((i:Int)+k)=(j:Int):=by rw[wrap_i64]<;>omega
    rcases Vm k b.length with P|hgb
    ·have db:=dz lb k;have⟨T,hT⟩:∃T,T=a[i]*aw b k+aw d j+c:=⟨_,rfl⟩
     obtain⟨m1,m2,m3,m4⟩:=zs lx db dl hc;rw[<-hT]at m1 m4;have e1:4294967296^i*(a[i]*aa (b.take k))+4294967296^j*(a[i]*aw b k)=4294967296^i*(a[i]*aa (b.take (k+1))):=by
      rw[fI,G,Vs,Vt,<-VM,WM (4294967296^k),<-VM]
     have st:=Aa m (uL (v:=T%4294967296) g) hT;rw[e1]at st;have⟨M,hM⟩:∃M,M=a[i]*aw b k:=⟨_,rfl⟩
     rw[<-hM]at hT m2 m3;rw[ce g]at dl hT m3;rw[ce P]at db hM;have t1:IntKind.u64.wrap (a[i]:Int)=a[i]:=cJ _ (by omega);have t2:IntKind.u64.wrap (b[k]:Int)=b[k]:=cJ _ (by omega);have t3:IntKind.u64.wrap ((a[i]:Int)*b[k])=M:=by
      rw[show(a[i]:Int)*b[k]=((M:Nat):Int) by rw[hM];simp];exact cJ _ m2
     have t4:IntKind.u64.wrap (d[j]:Int)=d[j]:=cJ _ (by omega);have t5:IntKind.u64.wrap ((M:Int)+d[j])=(M:Int)+d[j]:=by rw[ee]<;>omega
     have t6:IntKind.u64.wrap ((M:Int)+d[j]+c)=T:=by rw[ee]<;>omega
     have U:aR .and .u64 (T:Int) 4294967295=some ((T%4294967296:Nat):Int):=kh T (by omega);have W:cH .shr .u64 (T:Int) 32=some (.int .u64 ((T/4294967296:Nat):Int)):=cf T 32 (by omega);have⟨L,hL⟩:∃L,L=T%4294967296:=⟨_,rfl⟩
     have⟨C,hC⟩:∃C,C=T/4294967296:=⟨_,rfl⟩
     rw[<-hL]at U st;rw[<-hC]at W st m4;have t9:IntKind.u32.wrap (L:Int)=L:=eN _ (by omega);have Z:IntKind.i64.wrap ((k:Int)+1)=((k+1:Nat):Int):=by rw[wrap_i64]<;>omega
     have Q:(d.set j L).drop (i+(k+1))=l.drop (i+(k+1)):=by
      rw[WU (by omega)];have:=W2 (List.drop 1) y;rwa[Wj,Wj,G]at this
     have gof:∃f,H++[some ⟨1,(List.map u32 d).set j (V.int IntKind.u32 L),true,true⟩]=H++[some ⟨1,f.map u32,true,true⟩]/\f.length=n/\Li f/\f.drop (i+(k+1))=l.drop (i+(k+1))/\aa f+4294967296^(i+(k+1))*C=aa l+4294967296^i*(a[i]*aa (b.take (k+1))):=
      ⟨d.set j L,by rw[uK],by simp[K],Li.set z (by omega),Q,by rw[show i+(k+1)=j+1 by omega,VH];exact st⟩
     obtain⟨f,y1,y2,y3,y4,y5⟩:=gof;simp at y1;simp[Jh,o,s,A,u,h7,B,P,p,I,g,u32,t1,t2,t3,t4,t5,t6,U,W,t9,Y,Z,lim];exact⟨f,y1,y2,y3,C,m4,rfl,y4,y5⟩
    ·have J:k=b.length:=by omega
     rw[eX (l:=b) hgb]at m;have hv3:aa l+4294967296^i*(a[i]*aa b)=aa (a.take (i+1))*aa b:=by
      rw[hv,fI,ce p,VI,Vt]
     rw[hv3]at m;rw[J]at G Y;have x:aw d j=0:=by rw[F,G,hz]
     simp[Jh,s,u,B,J,Y,lim];refine aJ (fun t E r=>∃f e,r=H++[some ⟨1,f.map u32,true,true⟩]/\f.length=n/\Li f/\e<4294967296/\(t=0->f=d)/\(t=1->e=0)/\E 0=lim a/\E 1=lim b/\E 5=.ref H.length 1 0 n/\E 6=.int .i64 i/\E 7=.int .u64 (e:Nat)/\E 10=.int .i64 ((j+t:Nat):Int)/\aa f+4294967296^(j+t)*e=aa (a.take (i+1))*aa b) 1 ?_ ?_
     ·exact⟨d,c,by simp,K,z,hc,fun _=>rfl,by simp,by simp[o,lim],by simp[s,lim],by simp[A],by simp[u],by simp[h7],by simp,m⟩
     ·rintro t E' r ht ⟨f,e,rfl,N,S,w,ht0,ht1,k0,k1,k5,k6,k7,DO,q⟩;simp only[lim]at k0 k1;by_cases D:e=0
      ·subst D;rw[WS,VF]at q;simp[Ji,k0,k1,k5,k6,k7,g1,lim];exact⟨f,rfl,N,S,q⟩
      ·have htz:t=0:=by
        rcases Vm t 1 with h|h
        ·omega
        ·exact absurd (ht1 (by omega)) D
       subst htz;have O:=ht0 rfl;subst O;rw[VF]at DO q;rw[ce g]at x dl;have hc3:0<e:=by omega
       have t4:IntKind.u64.wrap 0=0:=rfl;have t6:IntKind.u64.wrap (e:Int)=e:=cJ _ (by omega);have U:aR .and .u64 (e:Int) 4294967295=some ((e%4294967296:Nat):Int):=kh e (by omega);rw[VO w]at U;have W:cH .shr .u64 (e:Int) 32=some (.int .u64 ((e/4294967296:Nat):Int)):=cf e 32 (by omega);rw[We w]at W;have t9:IntKind.u32.wrap (e:Int)=e:=eN _ w;have Z:IntKind.i64.wrap ((j:Int)+1)=((j+1:Nat):Int):=by rw[wrap_i64]<;>omega
       have st:aa (f.set j e)+4294967296^(j+1)*0=aa (a.take (i+1))*aa b:=by
        have:=uL (l:=f) (v:=e) g;rw[ce g,x,WS,VF]at this;rw[WS,VF,this];exact q
       simp[Ji,k0,k1,k5,k6,k7,DO,hc3,I,g,x,u32,t4,t6,U,W,t9,Z,lim];exact⟨f.set j e,by simp[u32],by simp[N],Li.set S (by omega),0,by omega,rfl,rfl,st⟩
  ·have hin:i=a.length:=by omega
   subst hin;rw[eX (l:=a) (Vo _)]at hv;simp only[lim]at o;simp[Jj,o,A,u];refine bt (args:=[.ref H.length 1 0 l.length]) rfl (by simp[hl]) (Rw l) (tM l (by omega)) ?_;rw[eh ll,hv];simp[lim]
def Dy.prod (a b:Dy):Dy:=Dy.of (a.neg != b.neg) (aa a.m*aa b.m) (a.e+b.e)
theorem QG (a b:Dy)(c:a.M)(d:b.M):CQ prog qxt [a.v,b.v] (a.prod b).v:=by
 refine ap rfl fun H=>?_
 have g:=c.len;have h:=d.len;have i:=c.lo;have j:=c.hi;have l:=d.lo;have m:=d.hi;have e:IntKind.i64.wrap (a.e+b.e)=a.e+b.e:=by rw[wrap_i64]<;>omega
 have f:(aB (aa a.m*aa b.m)).length<=100000:=by
  refine Vp ((limbsOf_len (k:=a.m.length+b.m.length)).2 ?_) (by omega);rw[Vs];exact Ya (bz c.li) (bz d.li)
 simp;refine ak rfl rfl rfl (OI a.m b.m (by omega) (by omega) c.li d.li) ?_;simp[e];refine ak rfl rfl rfl (ew (a.neg != b.neg) (aB (aa a.m*aa b.m)) (a.e+b.e) f (aY _) (by omega) (by omega)) ?_;rw[aP];simp[Dy.prod,lim]
theorem Dy.of_valid {neg:Bool}{n:Nat}{e:Int}:(Dy.of neg n e).valid=(Dy.of neg n e).inR:=by
 by_cases h:n=0
 ·subst h;simp only[Dy.of,Vh];rfl
 ·have p:Dy.of neg n e=⟨neg,aB (n/2^tz n),e+tz n⟩:=by simp[Dy.of,h]
  rw[p];obtain⟨m,_,_⟩:=mE h;have⟨N,o⟩:∃N,N=n/2^tz n:=⟨_,rfl⟩
  rw[<-o]at m ⊢;have c:N≠0:=by omega
  have j:=uf N;have hv:=aP N;have⟨B,r⟩:∃B,B=4096:=⟨_,rfl⟩
  have f:=ny (N:=N) (B:=B) (k:=128);cases g:aB N with
  |nil=>exact absurd g (lE c)
  |cons x l=>
   rw[g]at j hv f;have q:x%2=1:=by simp only[aa]at hv;omega
   have a:(x :: l).getLast (by simp)≠0:=j _ (W9 (by simp));simp only[Dy.valid];cases i:Dy.inR ⟨neg,x :: l,e+tz n⟩with
   |false=>simp
   |true=>
    have b:(x :: l).length<=256:=by
     simp only[Dy.inR,WF,VA,VT,abC]at i;have d:ac (aa (x :: l))<=B:=by
      rcases i with h|h
      ·omega
      ·have:=h.1.1.1;omega
     rw[hv]at d;have:=f (Vx (eM N) (Vg (by omega) d)) (by omega);omega
    simp only[Bool.and_true,VA,VT];exact⟨⟨b,q⟩,a⟩
theorem Dy.of_ok {neg:Bool}{n:Nat}{e:Int}(h:(Dy.of neg n e).inR=true):(Dy.of neg n e).Ok:=by
 refine Dy.Ok.of ?_ (by rw[Dy.of_valid];exact h);unfold Dy.of;split
 ·intro x a;simp at a
 ·exact aY _
theorem ZL (d:Dy)(w:d.W):CQ prog qxu [d.v] (.tup [(if d.valid then d else Dy.zero).v,.int .i64 (if d.valid then 0 else 9)]):=by
 refine ap rfl fun H=>?_
 simp;refine ak rfl rfl rfl (qP d w) ?_;cases h:d.valid<;>simp[Dy.zero,lim]
theorem YH (e:Int):CQ prog qwi [.int .i64 e] (.bool (decide (-32768<=e)&&decide (e<=32768))):=by
 refine ap rfl fun H=>?_
 simp;grind
theorem chk_eq {neg:Bool}{n:Nat}{e:Int}:(if(Dy.of neg n e).valid then Dy.of neg n e else Dy.zero)=(Dy.of neg n e).chk/\(if(Dy.of neg n e).valid then(0:Int)else 9)=(Dy.of neg n e).chkE:=by
 rw[Dy.of_valid];exact⟨rfl,rfl⟩
theorem UO (d:Dy)(k:Int)(w:d.W):CQ prog q2o [d.v,.int .i64 k] (.tup [(d.scl k).v,.int .i64 (d.sclE k)]):=by
 refine ap rfl fun H=>?_
 simp;refine ak rfl rfl rfl (qP d w) ?_;cases hv:d.valid
 ·simp[Dy.scl,Dy.sclE,hv,Dy.zero,lim]
 ·have ok:=Dy.Ok.of w.li hv;simp;refine ak rfl rfl rfl (YH k) ?_;by_cases a:-32768<=k/\k<=32768
  ·have f:=ok.elo;have g:=ok.ehi;have h:=ok.len;have c:IntKind.i64.wrap (d.e+k)=d.e+k:=by rw[wrap_i64]<;>omega
   simp[a,c];refine ak rfl rfl rfl (ew d.neg d.m (d.e+k) (by omega) ok.li (by omega) (by omega)) ?_;have e:(Dy.of d.neg (aa d.m) (d.e+k)).W:=Dy.of_W (Vp (limbsOf_len.2 (bz ok.li)) (by omega));simp;refine ak rfl rfl rfl (ZL _ e) ?_;rw[chk_eq.1,chk_eq.2];simp[Dy.scl,Dy.sclE,hv,a,lim]
  ·have b:(decide (-32768<=k)&&decide (k<=32768))=false:=by
    simp;omega
   simp[b,Dy.scl,Dy.sclE,hv,a,Dy.zero,lim]
theorem p7 (n:Nat):aa [n%4294967296,n/4294967296]=n:=by simp[aa];omega
theorem Bl (n:Int)(o:-4611686018427387904<=n)(p:n<=4611686018427387904):CQ prog YP [.int .i64 n] (Dy.of (decide (n<0)) n.natAbs 0).v:=by
 refine ap rfl fun H=>?_
 have⟨N,l⟩:∃N,N=n.natAbs:=⟨_,rfl⟩
 have d:=kh N (by omega);have e:cH .shr .u64 (N:Int) 32=some (.int .u64 ((N/2^32:Nat):Int)):=cf N 32 (by omega);have hv:=p7 N;have⟨L,i⟩:∃L,L=N%4294967296:=⟨_,rfl⟩
 have⟨C,h⟩:∃C,C=N/4294967296:=⟨_,rfl⟩
 rw[<-i]at d;rw[show(2:Nat)^32=4294967296 from rfl,<-h]at e;rw[<-i,<-h]at hv;have f:IntKind.u32.wrap (L:Int)=L:=eN _ (by omega);have g:IntKind.u32.wrap (C:Int)=C:=eN _ (by omega);have a:=ew (decide (n<0)) [L,C] 0 (by simp) (by intro x m;simp at m;omega) (by omega) (by omega);rw[hv]at a;rw[<-l];by_cases j:n<0
 ·have b:IntKind.u64.wrap n=18446744073709551616+n:=by simp only[IntKind.wrap,IntKind.bits,IntKind.signed];simp;omega
  have k:IntKind.u64.wrap (0-(18446744073709551616+n))=(N:Int):=by simp only[IntKind.wrap,IntKind.bits,IntKind.signed];simp;omega
  have c:IntKind.u64.wrap (-(18446744073709551616+n))=(N:Int):=by rw[<-k];congr 1;omega
  simp[j]at a ⊢;simp[b,c,d,f,e,g];refine bt rfl rfl (H1:=H++[some ⟨3,[.agg [.bool false,.nil,.int .i64 0]],false,true⟩,some ⟨1,[.int .u32 L,.int .u32 C],true,false⟩]) (vs:=[.bool true,lim [L,C],.int .i64 0]) (by simp[prep,ah,aF];rfl) a ?_;simp
 ·have b:IntKind.u64.wrap n=(N:Int):=by rw[ee]<;>omega
  simp[j]at a ⊢;simp[b,d,f,e,g];refine bt rfl rfl (H1:=H++[some ⟨3,[.agg [.bool false,.nil,.int .i64 0]],false,true⟩,some ⟨1,[.int .u32 L,.int .u32 C],true,false⟩]) (vs:=[.bool false,lim [L,C],.int .i64 0]) (by simp[prep,ah,aF];rfl) a ?_;simp
theorem qr (n:Int)(m:-4611686018427387904<=n)(o:n<=4611686018427387904):CQ prog YD [.int .i64 n] (Dy.of (decide (n<0)) n.natAbs 0).v:=by
 refine ap rfl fun H=>?_
 have⟨N,k⟩:∃N,N=n.natAbs:=⟨_,rfl⟩
 have d:=nJ N;have e:cH .shr .u64 (N:Int) 32=some (.int .u64 ((N/2^32:Nat):Int)):=cf N 32 (by omega);have hv:=p7 N;have⟨L,h⟩:∃L,L=N%4294967296:=⟨_,rfl⟩
 have⟨C,g⟩:∃C,C=N/4294967296:=⟨_,rfl⟩
 rw[<-h]at d;rw[show(2:Nat)^32=4294967296 from rfl,<-g]at e;rw[<-h,<-g]at hv;have f:IntKind.u32.wrap (C:Int)=C:=eN _ (by omega);have a:=Ex (decide (n<0)) [L,C] 0 (by simp) (by intro x l;simp at l;omega) (by omega) (by omega);rw[hv]at a;rw[<-k];by_cases i:n<0
 ·have b:IntKind.u64.wrap n=18446744073709551616+n:=by simp only[IntKind.wrap,IntKind.bits,IntKind.signed];simp;omega
  have j:IntKind.u64.wrap (0-(18446744073709551616+n))=(N:Int):=by simp only[IntKind.wrap,IntKind.bits,IntKind.signed];simp;omega
  have c:IntKind.u64.wrap (-(18446744073709551616+n))=(N:Int):=by rw[<-j];congr 1;omega
  simp[i]at a ⊢;simp[b,c,d,e,f];refine bt rfl rfl (H1:=H++[some ⟨3,[.agg [.bool false,.nil,.int .i64 0]],false,true⟩,some ⟨1,[.int .u32 L,.int .u32 C],true,false⟩]) (vs:=[.bool true,lim [L,C],.int .i64 0]) (by simp[prep,ah,aF];rfl) a ?_;simp
 ·have b:IntKind.u64.wrap n=(N:Int):=by rw[ee]<;>omega
  simp[i]at a ⊢;simp[b,d,e,f];refine bt rfl rfl (H1:=H++[some ⟨3,[.agg [.bool false,.nil,.int .i64 0]],false,true⟩,some ⟨1,[.int .u32 L,.int .u32 C],true,false⟩]) (vs:=[.bool false,lim [L,C],.int .i64 0]) (by simp[prep,ah,aF];rfl) a ?_;simp
