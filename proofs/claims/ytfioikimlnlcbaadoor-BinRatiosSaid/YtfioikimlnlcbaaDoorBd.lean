/- Parts of the proof: FpBw, FpBx. -/
import Derived.Test.YtfioikimlnlcbaaDoorBc
import Derived.Test.YtfioikimlnlcbaaDoorBa
import Derived.Test.YtfioikimlnlcbaaDoorFe
import Derived.Test.YtfioikimlnlcbaaDoorBa
namespace Go.Abs.W
set_option maxRecDepth 20000
theorem qrq (z:Sp):qstep z z=z:=by
 unfold qstep;rw[Nm.ord_self,Nm.ord_self];simp
theorem qoo (a b:Nm)(i:Nat):Sp.cor ⟨a,a⟩ ⟨b,b⟩ i=(a,b):=by unfold Sp.cor;split<;>rfl
theorem qnr (a b:Nm)(p:Nat):Sp.quo ⟨a,a⟩ ⟨b,b⟩ p=qz (a,b) p:=by
 have hc:∀i,Sp.cor ⟨a,a⟩ ⟨b,b⟩ i=(a,b):=by intro i;unfold Sp.cor;split<;>rfl
 have:∀i,qacc (Sp.cor ⟨a,a⟩ ⟨b,b⟩) p i=qz (a,b) p:=by
  intro i;induction i with
  |zero=>unfold qacc;rw[hc]
  |succ i ih=>unfold qacc;rw[ih,hc,qrq]
 exact this 3
theorem qmd {n:Int}(h1:-1073741824<=n)(h2:n<=1073741824):(Nm.whole n).B/\bitL (Nm.whole n).n<=31:=by
 have hb:(Nm.whole n).n<2^31:=by unfold Nm.whole;simp only;omega
 exact⟨⟨Nat.le_trans (qjh (k:=3) hb (by omega)) (by omega),by simp[Nm.whole],by simp[Nm.whole]⟩,qa6 hb⟩
theorem qom {n:Nat}{e:Int}{more:Bool}{p:Nat}{out:Bool}(hp:p<=1000)(hn:bitL n<=3000)(he:e<=3000):(bitL (cutQ n e more p out):Int)+(e+cutK n e p)<=16384:=by
 have h1:bitL (cutQ n e more p out)<=p+1:=qa6 (Nat.lt_of_le_of_lt qua (Nat.pow_lt_pow_right (by omega) (by omega)));unfold cutK;omega
theorem ql1 {a b:Nm}{p:Nat}(ha:bitL a.n<=1000)(hb:bitL b.n<=1000)(hp:p<=512)(ea:-1000<=a.e/\a.e<=1000)(eb:-1000<=b.e/\b.e<=1000):(a.frac b p).B/\bitL (a.frac b p).n<=3000/\(a.frac b p).e<=3000:=by
 have hk:fracK a b p<=1515:=by unfold fracK;omega
 have⟨K,hK⟩:∃K,K=2515:=⟨_,rfl⟩
 have hn:(a.frac b p).n<2^K:=by
  unfold Nm.frac;simp only;refine Nat.lt_of_le_of_lt (Nat.div_le_self _ _) ?_;refine Nat.lt_of_lt_of_le (Nat.mul_lt_mul_of_pos_right (qhb a.n) (Nat.two_pow_pos _)) ?_;rw[<-Nat.pow_add];exact Nat.pow_le_pow_right (by omega) (by omega)
 have he:(a.frac b p).e=a.e-b.e-fracK a b p:=rfl;exact⟨⟨Nat.le_trans (qjh (k:=200) hn (by omega)) (by omega),by omega,by omega⟩,Nat.le_trans (qa6 hn) (by omega),by omega⟩
theorem quv {a b:Nm}{p:Nat}(aB:a.B)(bB:b.B)(ha:bitL a.n<=1000)(hb:bitL b.n<=1000)(hp:p<=512)(ea:-1000<=a.e/\a.e<=1000)(eb:-1000<=b.e/\b.e<=1000)(h0:b.n≠0):QOk (a,b) p:=by
 obtain⟨f1,f2,f3⟩:=ql1 ha hb hp ea eb;exact⟨aB,bB,h0,f1,qom (by omega) f2 f3,qom (by omega) f2 f3⟩
def ratZ (n d:Int)(p:Nat):Sp:=qz (Nm.whole n,Nm.whole d) p
theorem qpe {n d:Int}{p:Nat}(h1:-1073741824<=n)(h2:n<=1073741824)(h3:1<=d)(h4:d<=1073741824)(hp:p<=512):QOk (Nm.whole n,Nm.whole d) p:=by
 obtain⟨a1,a2⟩:=qmd h1 h2;obtain⟨b1,b2⟩:=qmd (n:=d) (by omega) h4;exact quv a1 b1 (by omega) (by omega) hp (by simp[Nm.whole]) (by simp[Nm.whole]) (by unfold Nm.whole;simp only;omega)
theorem qso {d:Int}(h:1<=d):(Nm.whole d).sgn=1:=by
 have h1:¬d<0:=by omega
 have h2:¬d=0:=by omega
 simp[Nm.whole,Nm.sgn,h1,h2]
theorem qtd {H:Heap}{b2 b3:Nat}{n d:Int}{p:Nat}(h1:-1073741824<=n)(h2:n<=1073741824)(h3:1<=d)(h4:d<=1073741824)(hp:p<=512)
 (g2:H[b2]?=some (some ⟨2,[.agg [.int .i64 n,.int .i64 d]],false,true⟩)) (g3:H[b3]?=some (some ⟨1,[.int .i64 p],false,true⟩)) :
 Ev prog (.call qh7 [.sl [],.ptr b2 0 0,.ptr b3 0 0] H) (.ret (ratZ n d p).v H):=by
 have hl:∀k,¬(H.length+k<H.length):=by intro k;omega
 have g2':∀G:Heap,(H++G)[b2]?=some (some ⟨2,[.agg [.int .i64 n,.int .i64 d]],false,true⟩):=fun G=>by rw[List.getElem?_append_left (List.getElem?_eq_some_iff.1 g2).1];exact g2
 have g3':∀G:Heap,(H++G)[b3]?=some (some ⟨1,[.int .i64 p],false,true⟩):=fun G=>by rw[List.getElem?_append_left (List.getElem?_eq_some_iff.1 g3).1];exact g3
 have q:=qpe h1 h2 h3 h4 hp;have sg:=qso h3;have qc:=qi9 ⟨Nm.whole n,Nm.whole n⟩ ⟨Nm.whole d,Nm.whole d⟩ p (by omega) (fun i=>by rw[qoo];exact q) (by simp only[sg];omega);rw[qnr]at qc;refine qeo rfl ?_;simp[g2'];refine qac rfl rfl rfl (qou n h1 h2) ?_;simp;refine qac rfl rfl rfl (qow (Nm.whole n)) ?_;simp[g2'];refine qac rfl rfl rfl (qou d (by omega) h4) ?_;simp;refine qac rfl rfl rfl (qow (Nm.whole d)) ?_;simp[g3'];refine zq qc ?_;simp[ratZ]
def ratB (n d p:Int):Iv:=if(rv4 n d&&prB p)=true then⟨(ratZ n d p.toNat).lo.dy,(ratZ n d p.toNat).hi.dy,false⟩else Iv.whole
theorem qyl {n d:Int}{p:Nat}(h1:-1073741824<=n)(h2:n<=1073741824)(h3:1<=d)(h4:d<=1073741824)(hp:p<=512):(ratZ n d p).lo.B/\(ratZ n d p).hi.B:=qz_B (qpe h1 h2 h3 h4 hp) (by omega)
set_option maxHeartbeats 2000000 in
theorem qug (n d p:Int):CQ prog qpr [.agg [.int .i64 n,.int .i64 d],.int .i64 p] (ratB n d p).v:=by
 refine qai rfl fun H=>?_
 have hl:∀k,¬(H.length+k<H.length):=by intro k;omega
 have wh:allV=Iv.whole.v:=rfl;by_cases h3:1<=d
 case neg=>
  have h3':d<1:=by omega
  simp[h3',hl,ratB,rv4,h3,Iv.whole,lim]
 by_cases h4:d<=1073741824
 case neg=>
  have a3:¬d<1:=by omega
  have a4:1073741824<d:=by omega
  simp[a3,a4,hl,ratB,rv4,h4,Iv.whole,lim]
 by_cases h1:-1073741824<=n
 case neg=>
  have a3:¬d<1:=by omega
  have a4:¬1073741824<d:=by omega
  have a1:n < -1073741824:=by omega
  simp[a3,a4,a1,hl,ratB,rv4,h1,Iv.whole,lim]
 by_cases h2:n<=1073741824
 case neg=>
  have a3:¬d<1:=by omega
  have a4:¬1073741824<d:=by omega
  have a1:¬n < -1073741824:=by omega
  have a2:1073741824<n:=by omega
  simp[a3,a4,a1,a2,hl,ratB,rv4,h2,Iv.whole,lim]
 have a3:¬d<1:=by omega
 have a4:¬1073741824<d:=by omega
 have a1:¬n < -1073741824:=by omega
 have a2:¬1073741824<n:=by omega
 have⟨g,hg⟩:∃g,g=Nat.gcd n.natAbs d.natAbs:=⟨_,rfl⟩
 have hrv:rv4 n d=decide (g=1):=by simp[rv4,h1,h2,h3,h4,hg]
 simp[a1,a2,a3,a4];refine qac rfl rfl rfl (qxq n d g h1 h2 h3 h4 hg) ?_;by_cases hg1:g=1
 case neg=>
  have:¬(g:Int)=1:=by omega
  simp[this,hl,ratB,hrv,hg1,Iv.whole,lim]
 have hg1':(g:Int)=1:=by omega
 simp[hg1'];have cl:=fun(H':Heap) (g2:H'[H.length]?=some (some ⟨2,[.agg [.int .i64 n,.int .i64 d]],false,true⟩)) (g3:H'[H.length+1]?=some (some ⟨1,[.int .i64 p],false,true⟩))=>
  qmb (H:=H') (g:=qh7) (caps:=[.ptr H.length 0 0,.ptr (H.length+1) 0 0]) p [] (by intro x hx;cases hx) (by simp) (ratZ n d p.toNat)
   (by
    intro hp;have hp':8<=p/\p<=512:=by simpa[prB]using hp
    exact qyl h1 h2 h3 h4 (by omega)) rfl (fun _=>rfl) (by
    intro hp H2 hpre;have hp':8<=p/\p<=512:=by simpa[prB]using hp
    have⟨P,hP⟩:∃P:Nat,p=P:=⟨p.toNat,by omega⟩
    subst hP;exact qtd h1 h2 h3 h4 (by omega) (getP2 hpre g2) (getP2 hpre g3))
 refine WL_ev rfl rfl rfl (cl _ ?_ ?_) ?_
 ·simp
 ·simp
 ·by_cases hp:prB p=true
  ·simp[hp,hl,ratB,hrv,hg1]
  ·simp[hp,hl,ratB,hrv,hg1,allV,Iv.whole,lim]
end Go.Abs.W
namespace Go.Abs.W
set_option maxRecDepth 20000
theorem qw2 {x y:Sp}{p:Nat}(h:∀i,QOk (x.cor y i) p)(hp:p<=1000):(x.quo y p).lo.B/\(x.quo y p).hi.B:=qtf h hp 3
theorem qxk {H:Heap}{b:Nat}{x y:Sp}{p:Nat}(hp:p<=512)(hq:∀i,QOk (x.cor y i) p)(hs:¬(y.lo.sgn<=0/\0<=y.hi.sgn))(g:H[b]?=some (some ⟨1,[.int .i64 p],false,true⟩)) :
 Ev prog (.call qcp [.sl [x.v,y.v],.ptr b 0 0] H) (.ret (x.quo y p).v H):=by
 have hl:∀k,¬(H.length+k<H.length):=by intro k;omega
 have g':∀G:Heap,(H++G)[b]?=some (some ⟨1,[.int .i64 p],false,true⟩):=fun G=>by rw[List.getElem?_append_left (List.getElem?_eq_some_iff.1 g).1];exact g
 refine qeo rfl ?_;simp[g'];refine qac rfl rfl rfl (qi9 x y p (by omega) hq hs) ?_;simp
set_option maxHeartbeats 2000000 in
theorem qxs (x y:Iv)(p:Nat)(wx:x.W)(wy:y.W)(vx:x.valid=true)(vy:y.valid=true)(ax:x.all=false)(ay:y.all=false)(h8:8<=p)(hp:p<=512)(hq:∀i,QOk (x.sp.cor y.sp i) p)(hs:¬(y.sp.lo.sgn<=0/\0<=y.sp.hi.sgn)) :
 CQ prog qtx [x.v,y.v,.int .i64 p] (Iv.v ⟨(x.sp.quo y.sp p).lo.dy,(x.sp.quo y.sp p).hi.dy,false⟩):=by
 refine qai rfl fun H=>?_
 have hl:∀k,¬(H.length+k<H.length):=by intro k;omega
 have hprB:prB p=true:=by simp[prB];omega
 have cl:=fun(H':Heap) (g2:H'[H.length+2]?=some (some ⟨1,[.int .i64 p],false,true⟩))=>
  qmb (H:=H') (g:=qcp) (caps:=[.ptr (H.length+2) 0 0]) p [x,y] (by intro z hz;simp at hz;rcases hz with rfl|rfl;exact⟨wx,vx,ax⟩;exact⟨wy,vy,ay⟩) (by simp) (x.sp.quo y.sp p)
   (fun _=>qw2 hq (by omega)) rfl (fun _=>rfl) (fun _ H2 hpre=>qxk (by omega) hq hs (getP2 hpre g2))
 have pr:∀(H':Heap) b f,H'[b]?=some (some ⟨7,[x.v,y.v],true,true⟩)->prep prog qi1 H' [.int .i64 p,.fn qcp f,.ref b 7 0 2]=some ([.int .i64 p,.fn qcp f,.sl ([x,y].map Iv.v)],H'.set b (some ⟨7,[x.v,y.v],true,false⟩)):=by
  intro H' b f hb;have ff:∀G,frzC G (.fn qcp f)=some (.fn qcp f,G):=fun _=>rfl
  rw[qg9 rfl];simp[frzVs,frzV,hb,ff]
 simp[V.isCell];refine qci (args:=[.int .i64 p,.fn qcp [.ptr (H.length+2) 0 0],.ref (H.length+4) 7 0 2]) rfl rfl (pr _ _ _ ?_) ?_
 ·simp
 refine⟨_,_,cl _ ?_,fun h=>by simp at h,?_⟩
 ·simp
 ·rw[if_pos hprB];simp[hl]
end Go.Abs.W
