import Derived.Test.YtblicjipogbhmaaGreatDoorCe
import Derived.Test.YtblicjipogbhmaaGreatDoorTa
import Derived.Test.YtblicjipogbhmaaGreatDoorXf
namespace Go.Abs.W
theorem qS {a d:Nat}(g:0<d):0<=(a:Rat)/(d:Rat)-((a/d:Nat):Rat)/\(a:Rat)/(d:Rat)-((a/d:Nat):Rat)<=1:=by
 have l:=WT a d;have m:a<=(a/d+1)*d:=W6 (Nat.lt_mul_of_div_lt (Nat.lt_succ_self _) g);have c:=gm l;have b:=gm m;rw[W5]at c b;rw[fk]at b;have f:(0:Rat)<(d:Rat):=by have:=gm (show 1<=d from g);have e:((1:Nat):Rat)=1:=rfl;grind
 have h:=Rat.inv_pos.2 f;have i:=cW f;have n:=Vq c (Vj h);have o:=Vq b (Vj h);rw[V0];have j:((a/d:Nat):Rat)*(d:Rat)*(d:Rat)⁻¹=((a/d:Nat):Rat):=by rw[VR,i,VP]
 have k:(((a/d:Nat):Rat)+1)*(d:Rat)*(d:Rat)⁻¹=((a/d:Nat):Rat)+1:=by rw[VR,i,VP]
 rw[j]at n;rw[k]at o;constructor<;>grind
theorem Bu {a:Fx}(h:a.neg=false):(a.int:Rat)=(a.n:Rat):=by
 unfold Fx.int;rw[h];exact Wh _
theorem qB (a:Fx):(a.int:Rat)=(if a.neg then -1 else 1)*(a.n:Rat):=by
 unfold Fx.int;cases a.neg
 ·simp only[Vv,V8];rw[Wh];grind
 ·simp only[Wm];rw[VQ,Wh];grind
theorem vC (a:Fx){k:Nat}(d:0<k):Bd (((a.by' k).int:Rat)-(a.int:Rat)/(k:Rat)) 1:=by
 obtain⟨e,f⟩:=qS (a:=a.n) d;rw[qB,qB];have b:(a.by' k).neg=a.neg:=rfl;have c:(a.by' k).n=a.n/k:=rfl;rw[b,c];rw[V0]at *
 cases a.neg
 ·simp only[Vv,V8];constructor<;>grind
 ·simp only[Wm];constructor<;>grind
theorem PY (a c:Fx)(b:Nat):Bd (((a.times c b).int:Rat)-(a.int:Rat)*(c.int:Rat)/p2 b) 1:=by
 obtain⟨g,h⟩:=qS (a:=a.n*c.n) (d:=2^b) (Vl b);rw[W5]at g h;rw[qB,qB,qB];have e:(a.times c b).neg=(a.neg != c.neg):=rfl;have f:(a.times c b).n=a.n*c.n/2^b:=rfl;rw[e,f];unfold p2;rw[V0]at *
 cases a.neg<;>cases c.neg<;>simp only[Vv,V8,Wm,aad,Bool.bne_true,Bool.bne_false,aac]<;>constructor<;>grind
theorem Pu (z:Rat)(j i:Nat):od z (j+i)=od z j*ev z i:=by
 induction i with
 |zero=>simp only[VF,ev];grind
 |succ i a=>rw[<-Yg];simp only[od,ev];rw[a];grind
theorem wX {z:Rat}(c:0<=z)(e:4*z<=1)(j i:Nat):Bd (bJ z (j+i)-bJ z j) (16/15*od z (j+1)):=by
 have d:∀i,Bd (bJ z (j+(i+1))-bJ z j) (od z (j+1)*ps (ev z) i):=by
  have st:∀i,Bd (jp z (j+1+i)) (od z (j+1)*ev z i):=fun i=>by
   have:=iX (mh c (j+1+i)) (j+1+i);rw[<-gv,Pu]at this;exact this
  intro i;unfold bJ;induction i with
  |zero=>obtain⟨a,b⟩:=st 0;simp only[ps,VF]at *;constructor<;>grind
  |succ i f=>
   have s:=st (i+1);rw[show j+1+(i+1)=j+(i+1)+1 by omega]at s;obtain⟨a,b⟩:=f.add s;rw[show j+(i+1+1)=j+(i+1)+1 by omega];simp only[ps]at *
   constructor<;>grind
 have o:=gp c (j+1);cases i with
 |zero=>rw[VF];constructor<;>grind
 |succ i=>
  obtain⟨a,b⟩:=d i;have m:=mul_nn o (show 0<=16/15-ps (ev z) i by have:=Ck c e i;grind);constructor<;>grind
theorem TT (j:Nat):sg j=if j%2=1 then -1 else 1:=by
 induction j with
 |zero=>rfl
 |succ j a=>
  simp only[sg];rw[a];by_cases h:j%2=1
  ·rw[Vh h,Vk (by omega)];grind
  ·rw[Vk h,Vh (by omega)]
theorem yQ (next:Fx->Fx){z B:Rat}(E:0<=z)(F:4*z<=1)(q:Nat)
 (H:∀(p:Fx) (j:Nat),p.n<=q->p.neg=false->Bd ((p.n:Rat)-od z j*B) 2->(next p).neg=false/\Bd (((next p).n:Rat)-od z (j+1)*B) 2/\2*(next p).n<=p.n) (J:Nat) (o:0<=B) :
 ∀(f j:Nat) (p s:Fx),p.n<=q->p.n<f->p.neg=false->j+ac p.n<=J->Bd ((p.n:Rat)-od z j*B) 2->Bd ((s.int:Rat)-bJ z j*B) (2*(j:Rat)+1) ->
 ∃N,∀n,N<=n->Bd (((eg next f (j+1) p s).int:Rat)-bJ z n*B) (2*(J:Rat)+4)
 |0,j,p,s,_,C,_,_,_,_=>absurd C (by omega)
 |f+1,j,p,s,I,C,K,U,L,D=>by
  obtain⟨x,y,P⟩:=H p j I K L;unfold eg;by_cases hz:(next p).n=0
  ·rw[Vh hz];rw[hz,show((0:Nat):Rat)=0 from rfl]at y;refine⟨j,fun n v=>?_⟩;obtain⟨i,rfl⟩:=Wb v;have r:=wX E F j i;have Y:=gm (show j<=J by omega);obtain⟨a,b⟩:=r;obtain⟨c,d⟩:=D;obtain⟨e,g⟩:=y;have M:=mul_nn (show 0<=16/15*od z (j+1)-(bJ z (j+i)-bJ z j) by grind) o;have O:=mul_nn (show 0<=16/15*od z (j+1)+(bJ z (j+i)-bJ z j) by grind) o;constructor<;>grind
  ·rw[Vk hz];have W:=CB P hz;obtain⟨l,m⟩:=vC (next p) (k:=2*(j+1)+1) (by omega);have Z:((next p).by' (2*(j+1)+1)).neg=false:=x;rw[Bu x]at l m;have u:((2*(j+1)+1:Nat):Rat)=2*((j:Rat)+1)+1:=by rw[UB,fk]
   have h:jp z (j+1)=sg (j+1)*(od z (j+1)/((2*(j+1)+1:Nat):Rat)):=rfl;have G:=ky (2*(j+1));have A:=Rat.inv_pos.2 G;have T:((2*(j+1)+1:Nat):Rat)⁻¹<=1/2:=by
    have:=tJ (show(0:Rat)<2 by decide) (show(2:Rat)<=((2*(j+1)+1:Nat):Rat) by have:=bL j;rw[u];grind);have e:(2:Rat)⁻¹=1/2:=by grind
    grind
   rw[V0]at l m h;have t:bJ z (j+1)=bJ z j+jp z (j+1):=rfl;obtain⟨Q,S⟩:=y;have M:=mul_nn (show 0<=2-(((next p).n:Rat)-od z (j+1)*B) by grind) (Vj A);have O:=mul_nn (show 0<=2+(((next p).n:Rat)-od z (j+1)*B) by grind) (Vj A);obtain⟨v1,v2⟩:=D;have sgn:=TT (j+1);have w:Bd (((s.add (if(j+1)%2=1 then((next p).by' (2*(j+1)+1)).minus else(next p).by' (2*(j+1)+1))).int:Rat)-bJ z (j+1)*B) (2*((j+1:Nat):Rat)+1):=by
    rw[fk,mZ,Wg,t,h,sgn];split
    ·rw[pW,VQ];constructor<;>grind
    ·constructor<;>grind
   exact yQ next E F q H J o f (j+1) (next p) _ (by omega) (by omega) x (by omega) ⟨Q,S⟩ w
theorem tD (b:Nat):((2^b:Nat):Rat)=p2 b:=rfl
theorem zd {m b:Nat}(G:4<=m)(_hm2:m<=1000):∃N,∀n,N<=n->Bd (((cZ m b).int:Rat)-bJ (1/(m:Rat)) n*p2 b) (2*(b:Rat)+8):=by
 have q:=gm G;rw[show((4:Nat):Rat)=4 from rfl]at q;have e:(0:Rat)<(m:Rat):=by grind
 have g:=Rat.inv_pos.2 e;have r:=cW e;have A:1/(m:Rat)=(m:Rat)⁻¹:=by rw[V0,WB]
 have H:4*(m:Rat)⁻¹<=1:=by
  have:=Vq q (Vj g);rwa[r]at this
 have t:=fh b;rw[A];obtain⟨u,v⟩:=qS (a:=2^b) (d:=m) (by omega);rw[tD,V0]at u v;have J:ac (2^b/m)<=b+1:=by
  have:=dW (VY (2^b) m);rw[pU]at this;exact this
 have h:=yQ (fun a=>a.by' (m*m)) (z:=(m:Rat)⁻¹) (B:=p2 b) (Vj g) H (2^b/m) (fun p j P f F=>by
  have i:0<m*m:=Xj (by omega) (by omega);refine⟨f,?_,?_⟩
  ·obtain⟨k,l⟩:=qS (a:=p.n) (d:=m*m) i;show Bd (((p.n/(m*m):Nat):Rat)-_) 2;rw[V0,W5]at k l;have y:((m:Rat)*(m:Rat))⁻¹=(m:Rat)⁻¹*(m:Rat)⁻¹:=by
    have C:((m:Rat)*(m:Rat))*((m:Rat)⁻¹*(m:Rat)⁻¹)=1:=by
     have:((m:Rat)*(m:Rat))*((m:Rat)⁻¹*(m:Rat)⁻¹)=((m:Rat)*(m:Rat)⁻¹)*((m:Rat)*(m:Rat)⁻¹):=by grind
     rw[this,r,WB]
    have D:=cW (Wr e e);have o:((m:Rat)*(m:Rat))⁻¹*(((m:Rat)*(m:Rat))*((m:Rat)⁻¹*(m:Rat)⁻¹))=((m:Rat)*(m:Rat))*((m:Rat)*(m:Rat))⁻¹*((m:Rat)⁻¹*(m:Rat)⁻¹):=by grind
    rw[C,D,VP,WB]at o;exact o
   rw[y]at k l;simp only[od];obtain⟨K,L⟩:=F;have s:0<=(m:Rat)⁻¹*(m:Rat)⁻¹:=br _;have I:(m:Rat)⁻¹*(m:Rat)⁻¹<=1/16:=by
    have:=eD (a:=(m:Rat)⁻¹) (b:=1/4) (c:=(m:Rat)⁻¹) (d:=1/4) (by grind) (by grind) (by grind) (Vj g);grind
   have M:=mul_nn (show 0<=2-((p.n:Rat)-od (m:Rat)⁻¹ j*p2 b) by grind) s;have O:=mul_nn (show 0<=2+((p.n:Rat)-od (m:Rat)⁻¹ j*p2 b) by grind) s;constructor<;>grind
  ·exact so (a:=p) (n:=m) (by omega)) (b+2) (Vj t) (2^b/m+1) 0 ⟨false,2^b/m⟩ ⟨false,2^b/m⟩ (Vo _) (Nat.lt_succ_self _) rfl (by simp only[];omega) (by
  simp only[od];constructor<;>grind) (by
  rw[Bu rfl];have w:bJ (m:Rat)⁻¹ 0=(m:Rat)⁻¹:=by
   show sg 0*lt (m:Rat)⁻¹ 0=_;unfold lt;simp only[od,sg];rw[show((2*0+1:Nat):Rat)=1 from rfl];grind
  rw[w,show((0:Nat):Rat)=0 from rfl];simp only[];constructor<;>grind)
 obtain⟨N,E⟩:=h;refine⟨N,fun n f=>?_⟩;obtain⟨a,c⟩:=E n f;have x:((b+2:Nat):Rat)=(b:Rat)+2:=by rw[fk,fk];grind
 rw[x]at a c;unfold cZ kw;constructor<;>grind
theorem L0 {b:Nat}(_hb:10<=b)(a:b<=3000):∃N,∀n,N<=n->Bd (((ii b).int:Rat)-2*cz n*p2 b) 131072:=by
 obtain⟨N,k⟩:=zd (m:=5) (b:=b) (by decide) (by decide);obtain⟨M,hM⟩:=zd (m:=239) (b:=b) (by decide) (by decide);have h:=gm a;rw[show((3000:Nat):Rat)=3000 from rfl]at h;refine⟨max N M,fun n l=>?_⟩;obtain⟨c,d⟩:=k n (by omega);obtain⟨f,g⟩:=hM n (by omega);rw[Bu (U0 (by decide)).1]at c d f g;rw[show((5:Nat):Rat)=5 from rfl]at c d;rw[show((239:Nat):Rat)=239 from rfl]at f g;have e:((ii b).int:Rat)=16*((cZ 5 b).n:Rat)-4*((cZ 239 b).n:Rat):=by
  unfold ii;rw[mZ,Wg];have i:(Fx.mk false ((cZ 5 b).n*2^4)).int=16*((cZ 5 b).n:Int):=by unfold Fx.int;simp;omega
  have j:(Fx.mk true ((cZ 239 b).n*2^2)).int=-(4*((cZ 239 b).n:Int)):=by unfold Fx.int;simp;omega
  rw[i,j,VQ,VG,VG,Wh,Wh,show((16:Int):Rat)=16 from rfl,show((4:Int):Rat)=4 from rfl];grind
 rw[e];unfold cz e8;constructor<;>grind
theorem Kl (k:Nat):(k%4=0/\c4 k=1/\s4 k=0)\/(k%4=1/\c4 k=0/\s4 k=1)\/(k%4=2/\c4 k=-1/\s4 k=0)\/(k%4=3/\c4 k=0/\s4 k=-1):=by
 induction k with
 |zero=>exact .inl ⟨rfl,rfl,rfl⟩
 |succ k c=>
  rw[iz,gN];rcases c with ⟨h,a,b⟩|⟨h,a,b⟩|⟨h,a,b⟩|⟨h,a,b⟩<;>rw[a,b]
  ·exact .inr (.inl ⟨by omega,by grind,rfl⟩)
  ·exact .inr (.inr (.inl ⟨by omega,rfl,rfl⟩))
  ·exact .inr (.inr (.inr ⟨by omega,by grind,rfl⟩))
  ·exact .inl ⟨by omega,by grind,rfl⟩
def Ej : Nat->Rat
 |0=>0
 |1=>2
 |_+2=>6
theorem mp (j:Nat):0<=Ej j/\Ej j<=6:=by
 match j with
 |0=>exact⟨by decide,by decide⟩
 |1=>exact⟨by decide,by decide⟩
 |n+2=>exact⟨by show(0:Rat)<=6;decide,by show(6:Rat)<=6;decide⟩
theorem J4 (j:Nat):2*Ej j+1<=(Ej (j+1)-1)*((j+1:Nat):Rat):=by
 match j with
 |0=>
  show 2*(0:Rat)+1<=(2-1)*((0+1:Nat):Rat)
  rw[show((0+1:Nat):Rat)=1 from rfl];grind
 |1=>
  show 2*(2:Rat)+1<=(6-1)*((1+1:Nat):Rat)
  rw[show((1+1:Nat):Rat)=2 from rfl];grind
 |n+2=>
  show 2*(6:Rat)+1<=(6-1)*((n+2+1:Nat):Rat);have h:=bL n;rw[fk,fk,fk];grind
theorem K5 {x t:Fx}{b j:Nat}{r:Rat}(n:(x.int:Rat)=r*p2 b)(q:Bd r 2)(o:Bd ((t.int:Rat)-tm r j*p2 b) (Ej j)) :
 Bd ((((t.times x b).by' (j+1)).int:Rat)-tm r (j+1)*p2 b) (Ej (j+1)):=by
 obtain⟨f,g⟩:=PY t x b;obtain⟨h,i⟩:=vC (t.times x b) (k:=j+1) (by omega);have d:=ky j;have c:=Rat.inv_pos.2 d;have p:=cW d;have e:=cW (fh b);have l:(t.int:Rat)*(x.int:Rat)/p2 b=(t.int:Rat)*r:=by
  rw[n,V0];have:(t.int:Rat)*(r*p2 b)*(p2 b)⁻¹=(t.int:Rat)*r*(p2 b*(p2 b)⁻¹):=by grind
  rw[this,e,VP]
 rw[l]at f g;rw[V0]at h i;have es:=J4 j;have m:tm r (j+1)=tm r j*r*((j+1:Nat):Rat)⁻¹:=by show tm r j*r/_=_;rw[V0]
 rw[m];obtain⟨s,u⟩:=o.mul q;obtain⟨y,A⟩:=mp j;generalize ((t.times x b).by' (j+1)).int=Q at *
 generalize (t.times x b).int=T at *
 generalize ((j+1:Nat):Rat)=k at *
 generalize Ej (j+1)=a at *
 generalize Ej j=E at *
 have v:(T:Rat)-tm r j*r*p2 b<=2*E+1:=by grind
 have w:-(2*E+1)<=(T:Rat)-tm r j*r*p2 b:=by grind
 have B:=mul_nn (show 0<=(a-1)*k-((T:Rat)-tm r j*r*p2 b) by grind) (Vj c);have C:=mul_nn (show 0<=(a-1)*k+((T:Rat)-tm r j*r*p2 b) by grind) (Vj c);have z:(a-1)*k*k⁻¹=a-1:=by rw[VR,p,VP]
 constructor<;>grind
theorem TZ {r c:Rat}(h:c=r\/c=-r)(k:Nat):tm c k=tm r k\/tm c k=- tm r k:=by
 rcases h with rfl|rfl
 ·exact .inl rfl
 ·exact v7 r k
theorem NO {r B:Rat}{j:Nat}(q:Bd r 2)(H:16<=B)(h:Bd (tm r (j+1)*B) 6)(i:Nat):Bd ((ss r (j+i)-ss r j)*B) 12/\Bd ((cs r (j+i)-cs r j)*B) 12:=by
 have⟨c,k,n,g⟩:∃c,0<=c/\Bd r c/\(c=r\/c=-r):=by
  rcases(inferInstance:Decidable (0<=r))with f|f
  ·exact⟨-r,by grind,⟨by grind,by grind⟩,.inr rfl⟩
  ·exact⟨r,f,⟨by grind,by grind⟩,.inl rfl⟩
 have F:c<=2:=by obtain⟨a,b⟩:=q;rcases g with rfl|rfl<;>grind
 have z:tm c (j+1)*B<=6:=by
  obtain⟨a,b⟩:=h;rcases TZ g (j+1)with e|e<;>rw[e]<;>grind
 have o:=di k (j+1);have w:2*c<=((j+1:Nat):Rat):=by
  rcases(inferInstance:Decidable (2*c<=((j+1:Nat):Rat)))with f|f
  ·exfalso;have p:1/2<=tm c (j+1):=by
    have l:=oB c;have m:2*tm c 2=c*tm c 1:=mL c 1;have E:3*tm c 3=c*tm c 2:=mL c 2;rcases(by omega:j=0\/j=1\/j=2\/3<=j)with rfl|rfl|rfl|I
    ·rw[show((0+1:Nat):Rat)=1 from rfl]at f;rw[W1,l];grind
    ·rw[show((1+1:Nat):Rat)=2 from rfl]at f;show 1/2<=tm c 2;rw[l]at m;have:=eD (a:=1) (b:=c) (c:=1) (d:=c) (by grind) (by grind) k (by decide);grind
    ·rw[show((2+1:Nat):Rat)=3 from rfl]at f;show 1/2<=tm c 3;rw[l]at m;have L:=eD (a:=3/2) (b:=c) (c:=3/2) (d:=c) (by grind) (by grind) k (by grind);have M:=eD (a:=3/2) (b:=c) (c:=9/4) (d:=c*c) (by grind) (by grind) k (by grind);have N:6*tm c 3=c*(c*c):=by rw[<-m];grind
     clear l m E z o h g q n;generalize tm c 3=T at *
     generalize c*(c*c)=C at *
     grind
    ·exfalso;have:=gm (show 4<=j+1 by omega);rw[show((4:Nat):Rat)=4 from rfl]at this;grind
   have:=mul_nn (show 0<=tm c (j+1)-1/2 by grind) (show 0<=B by grind);grind
  ·exact f
 cases i with
 |zero=>rw[VF];refine⟨⟨by grind,by grind⟩,by grind,by grind⟩
 |succ i=>
  have A:=BA k w i;have x:=di k (j+1+i);have G:es c (j+1)=es c j+tm c (j+1):=rfl;rw[show j+1+i=j+(i+1) by omega]at A x;have s:=dH (fun i=>(cQ n i).2) (show j<=j+(i+1) by omega);have t:=dH (fun i=>(cQ n i).1) (show j<=j+(i+1) by omega);have D:(es c (j+(i+1))-es c j)*B<=12:=by
   have:=mul_nn (show 0<=2*tm c (j+1)-(es c (j+(i+1))-es c j) by grind) (show 0<=B by grind);grind
  have fin:∀y:Rat,Bd y (es c (j+(i+1))-es c j)->Bd (y*B) 12:=fun y ⟨u,v⟩=>by
   have J:=mul_nn (show 0<=es c (j+(i+1))-es c j-y by grind) (show 0<=B by grind);have K:=mul_nn (show 0<=es c (j+(i+1))-es c j+y by grind) (show 0<=B by grind);constructor<;>grind
  exact⟨fin _ s,fin _ t⟩
theorem Af {x:Fx}{b:Nat}{r:Rat}(L:(x.int:Rat)=r*p2 b)(H:Bd r 2)(M:x.n<=2^(b+1))(K:4<=b):∀(f j:Nat) (t s c:Fx),
 f+(j+1)=b+9->t.n<=2*2^b->(j=0->t.n<=2^b)->(4<=j+1->ac t.n+(j+1)<=b+6) ->
 Bd ((t.int:Rat)-tm r j*p2 b) (Ej j)->Bd ((s.int:Rat)-ss r j*p2 b) (6*(j:Rat))->Bd ((c.int:Rat)-cs r j*p2 b) (6*(j:Rat)) ->
 ∃N,∀n,N<=n->Bd (((d7 x b f (j+1) t s c).1.int:Rat)-ss r n*p2 b) (6*(b:Rat)+66)/\Bd (((d7 x b f (j+1) t s c).2.int:Rat)-cs r n*p2 b) (6*(b:Rat)+66)
 |0,j,t,s,c,U,_,_,B,_,_,_=>by have:=B (by omega);omega
 |f+1,j,t,s,c,U,ht,Q,B,E,m,l=>by
  have Y:=UH (t:=t.n) (k:=j+1) (by omega) M;rw[<-sZ t x b (j+1)]at Y;have d:=K5 L H E;unfold d7;generalize (t.times x b).by' (j+1)=q at *
  have Z:q.n<=2*t.n:=by
   have:=Xn q.n (show 0<j+1 by omega);omega
  have o:q.n<=2*2^b:=by
   rcases Vm j 1 with h|h
   ·have J:=Q (by omega);omega
   ·have J:q.n*2<=q.n*(j+1):=VN _ (by omega);omega
  have jb:(j:Rat)<=(b:Rat)+9:=by
   have:=gm (show j<=b+9 by omega);rw[XF]at this;exact this
  by_cases hz:q.n=0
  ·rw[Vh hz];have q0:(q.int:Rat)=0:=by
    have:q.int=0:=by have:=xE q;omega
    rw[this];rfl
   rw[q0]at d;have P:=(mp (j+1)).2;have small:Bd (tm r (j+1)*p2 b) 6:=by obtain⟨u,v⟩:=d;constructor<;>grind
   have A:16<=p2 b:=by
    have:=gm (Vg (show 0<2 by omega) K);exact this
   refine⟨j,fun n W=>?_⟩;obtain⟨i,rfl⟩:=Wb W;obtain⟨⟨a1,a2⟩,c1,c2⟩:=NO H A small i;obtain⟨d1,d2⟩:=m;obtain⟨f1,f2⟩:=l;simp only[];refine⟨⟨by grind,by grind⟩,by grind,by grind⟩
  ·rw[Vk hz];have P:=(mp (j+1)).2;have p:Bd ((q.int:Rat)-tm r (j+1)*p2 b) 6:=by obtain⟨u,v⟩:=d;constructor<;>grind
   have F:4<=(j+1)+1->ac q.n+((j+1)+1)<=b+6:=by
    intro h5;rcases Vm (j+1) 4 with C|C
    ·have S:=dW o;have T:=pU (b+1);rw[show 2^(b+1)=2*2^b by rw[VH,VE]]at T;omega
    ·have J:q.n*4<=q.n*(j+1):=VN _ C;have S:=CB (a:=q.n) (b:=t.n) (by omega) hz;have:=B C;omega
   have es:ss r (j+1)=ss r j+s4 (j+1)*tm r (j+1):=rfl;have g:cs r (j+1)=cs r j+c4 (j+1)*tm r (j+1):=rfl;have e:=fk j;obtain⟨u1,u2⟩:=p;obtain⟨v1,v2⟩:=m;obtain⟨w1,w2⟩:=l;have z:=fun(O I:Fx) (G:Bd ((O.int:Rat)-ss r (j+1)*p2 b) (6*((j+1:Nat):Rat))) (D:Bd ((I.int:Rat)-cs r (j+1)*p2 b) (6*((j+1:Nat):Rat)))=>
    Af L H M K f (j+1) q O I (by omega) o (by omega) F d G D
   rcases Kl (j+1)with ⟨h,w,y⟩|⟨h,w,y⟩|⟨h,w,y⟩|⟨h,w,y⟩<;>rw[y]at es<;>rw[w]at g
   ·rw[Vk (show ¬(j+1)%2=1 by omega),Vk (show ¬2<=(j+1)%4 by omega)];refine z _ _ ?_ ?_
    ·rw[es,e];constructor<;>grind
    ·rw[g,e,mZ,Wg];constructor<;>grind
   ·rw[Vh (show(j+1)%2=1 by omega),Vk (show ¬2<=(j+1)%4 by omega)];refine z _ _ ?_ ?_
    ·rw[es,e,mZ,Wg];constructor<;>grind
    ·rw[g,e];constructor<;>grind
   ·rw[Vk (show ¬(j+1)%2=1 by omega),Vh (show 2<=(j+1)%4 by omega)];refine z _ _ ?_ ?_
    ·rw[es,e];constructor<;>grind
    ·rw[g,e,mZ,pW,Wg,VQ];constructor<;>grind
   ·rw[Vh (show(j+1)%2=1 by omega),Vh (show 2<=(j+1)%4 by omega)];refine z _ _ ?_ ?_
    ·rw[es,e,mZ,pW,Wg,VQ];constructor<;>grind
    ·rw[g,e];constructor<;>grind
theorem NN {x:Fx}{b:Nat}{r:Rat}(e:(x.int:Rat)=r*p2 b)(f:x.n<=2^(b+1))(j:4<=b) :
 ∃N,∀n,N<=n->Bd (((dk x b).1.int:Rat)-ss r n*p2 b) (6*(b:Rat)+66)/\Bd (((dk x b).2.int:Rat)-cs r n*p2 b) (6*(b:Rat)+66):=by
 have a:=fh b;have k:Bd r 2:=by
  have h:=gm f;rw[VH,W5,tD,show((2:Nat):Rat)=2 from rfl]at h;have s:=qB x;rw[e]at s;have l:=bL x.n;constructor
  ·refine Vw (c:=p2 b) ?_ a;rw[s];cases x.neg<;>simp only[Vv,V8,Wm]<;>grind
  ·refine Vw (c:=p2 b) ?_ a;rw[s];cases x.neg<;>simp only[Vv,V8,Wm]<;>grind
 have g:((0:Nat):Rat)=0:=rfl;have d:((Fx.mk false (2^b)).int:Rat)=p2 b:=Bu rfl;have i:((Fx.mk false 0).int:Rat)=0:=rfl;exact Af e k f j (b+8) 0 ⟨false,2^b⟩ ⟨false,0⟩ ⟨false,2^b⟩ (by omega) (by simp only[];omega) (fun _=>Vo _) (by omega)
  (by rw[d];show Bd (p2 b-1*p2 b) 0;constructor<;>grind)
  (by rw[i,g];show Bd (0-(0*1)*p2 b) _;constructor<;>grind)
  (by rw[d,g];show Bd (p2 b-(1*1)*p2 b) _;constructor<;>grind)
theorem mc (a:Nat):((pw a:Int):Rat)=p2 a:=by unfold pw p2;rw[Wh]
theorem ju (a b:Nat):p2 (a+b)=p2 a*p2 b:=by unfold p2;rw[Vs,W5]
def hO (neg:Bool):Rat:=if neg then -1 else 1
theorem U5 (n:Bool):hO n=1\/hO n=-1:=by unfold hO;cases n<;>simp
theorem Ec {a b c:Rat}(d:c≠0)(h:a*c=b*c):a=b:=by
 have m:=Wv c d;have e:a*c*c⁻¹=b*c*c⁻¹:=by rw[h]
 rwa[VR,VR,m,VP,VP]at e
theorem Me (d:Dy):(d.val:Rat)=hO d.neg*(aa d.m:Rat)*p2 (d.e+16384).toNat:=by
 have e:d.val=(if d.neg=true then -(d.absN:Int)else(d.absN:Int)):=rfl;have a:d.absN=aa d.m*2^(d.e+16384).toNat:=rfl;rw[e,a];unfold hO;split
 ·rw[VQ,Wh,W5];show -((aa d.m:Rat)*p2 _)=_;grind
 ·rw[Wh,W5];show(aa d.m:Rat)*p2 _=_;grind
theorem vQ {d:Dy}{a c:Nat}(g:0<=d.e+16384)(h:d.e+a=c):d.rat*p2 a=hO d.neg*(aa d.m:Rat)*p2 c:=by
 have i:=dK;have es:sc=p2 16384:=mc 16384;refine Ec (c:=sc) (by grind) ?_;have b:d.rat*p2 a*sc=d.rat*sc*p2 a:=by grind
 rw[b,cL,Me,es];have f:(d.e+16384).toNat+a=c+16384:=by omega
 have e:p2 (d.e+16384).toNat*p2 a=p2 c*p2 16384:=(ju _ _).symm.trans ((W2 p2 f).trans (ju _ _));generalize p2 (d.e+16384).toNat=X at *
 generalize p2 16384=Y at *
 have:hO d.neg*(aa d.m:Rat)*X*p2 a=hO d.neg*(aa d.m:Rat)*(X*p2 a):=by grind
 rw[this,e];grind
theorem Bv (a:Fx):(a.int:Rat)=hO a.neg*(a.n:Rat):=qB a
theorem Uc {d:Dy}{b:Nat}(ok:d.Ok):Bd (((Fx.of d b).int:Rat)-d.rat*p2 b) 1:=by
 have o:=ok.elo;rw[Bv,Ud];unfold Fx.of;split
 ·rename_i h;simp only[];have⟨k,l⟩:∃k:Nat,k=(-(d.e+b)).toNat:=⟨_,rfl⟩
  rw[<-l];have e:=vQ (d:=d) (a:=b+k) (c:=0) (by omega) (by omega);rw[ju]at e;have f:p2 0=1:=rfl;rw[f]at e;obtain⟨i,j⟩:=qS (a:=aa d.m) (d:=2^k) (Vl k);rw[tD,V0]at i j;have n:=fh k;have m:=cW n;have g:hO d.neg*((aa d.m:Rat)*(p2 k)⁻¹)=d.rat*p2 b:=by
   have:hO d.neg*((aa d.m:Rat)*(p2 k)⁻¹)=(hO d.neg*(aa d.m:Rat)*1)*(p2 k)⁻¹:=by grind
   rw[this,<-e];have:d.rat*(p2 b*p2 k)*(p2 k)⁻¹=d.rat*p2 b*(p2 k*(p2 k)⁻¹):=by grind
   rw[this,m,VP]
  rw[<-g];unfold hO;split<;>constructor<;>grind
 ·rename_i h;simp only[];have e:=vQ (d:=d) (a:=b) (c:=(d.e+b).toNat) (by omega) (by omega);rw[e,W5,tD];constructor<;>grind
theorem M9 {b:Nat}(f:10<=b)(e:b<=3000):∃N,∀n,N<=n->Bd (((ii b).n/2:Nat)-cz n*p2 b) 65537:=by
 obtain⟨N,i⟩:=L0 f e;refine⟨N,fun n j=>?_⟩;obtain⟨a,c⟩:=i n j;rw[Bu (DD f).1]at a c;obtain⟨g,h⟩:=qS (a:=(ii b).n) (d:=2) (by decide);rw[show((2:Nat):Rat)=2 from rfl]at g h;constructor<;>grind
def dT (d:Dy)(b:Nat):Int:=if(bO d b).neg=true then -(cC d b:Int)else cC d b
theorem NG (d:Dy)(b:Nat):dT d b%4=ez d b:=by
 unfold dT ez;split<;>omega
theorem NF {d:Dy}{b:Nat}:(b8 d b).int=(bO d b).int-dT d b*cU d b:=by
 unfold b8 dT;rw[mZ];unfold Fx.int;cases(bO d b).neg
 ·simp;omega
 ·simp;rw[V9];omega
theorem yw {d:Dy}(ok:d.Ok){t:Nat}(h:d.top<=t):Bd d.rat (p2 t):=by
 by_cases c:d.m=[]
 ·rw[q8 c];have:=fh t;constructor<;>grind
 ·obtain⟨a,b⟩:=U4 ok c (n:=t+1) (by omega);rw[mc,show t+1=1+t by omega,ju,show p2 1=2 from rfl]at a b;constructor<;>grind
theorem LC (d:Dy):d.top<=(aZ d:Int):=by unfold aZ;omega
theorem LD {d:Dy}{b:Nat}(ok:d.Ok)(hb:8<=b)(O:b<=1000)(ht:d.top<=128) :
 ∃N,∀n,N<=n->Bd (((dr d b).int:Rat)-(d.rat-(dT d b:Rat)*cz n)*p2 b) 2:=by
 have hT:aZ d<=128:=by unfold aZ;omega
 have i:aX d b=b+(aZ d+40):=by unfold aX;omega
 obtain⟨N,l⟩:=M9 (b:=aX d b) (by omega) (by omega);obtain⟨U,Y⟩:=Uc (d:=d) (b:=aX d b) ok;obtain⟨_,D,F⟩:=DD (b:=aX d b) (by omega);have E:2^12<=2^aX d b:=Vg (by omega) (by omega);have e:(2:Nat)^12=4096:=rfl;have j:2^aX d b<=cU d b:=by
  show _<=(ii (aX d b)).n/2;omega
 have nB:cC d b<=2^aZ d+1:=by
  have r:=yw ok (LC d);have Z:((bO d b).n:Rat)<=p2 (aZ d)*p2 (aX d b)+1:=by
   have s:=Bv (bO d b);have q:=fh (aX d b);have m1:=mul_nn (show 0<=p2 (aZ d)-d.rat by obtain⟨u,v⟩:=r;grind) (Vj q);have m2:=mul_nn (show 0<=p2 (aZ d)+d.rat by obtain⟨u,v⟩:=r;grind) (Vj q);have ex:bO d b=Fx.of d (aX d b):=rfl;rw[ex]at s ⊢;have o:=U5 (Fx.of d (aX d b)).neg;generalize hO (Fx.of d (aX d b)).neg=σ at *
   generalize (Fx.of d (aX d b)).int=I at *
   clear i e D F E j l;rcases o with rfl|rfl<;>grind
  have xn2:(bO d b).n<=2^aZ d*2^aX d b+1:=by
   refine Rat.natCast_le_natCast.1 ?_;rw[XF,W5];exact Z
  show(bO d b).n/cU d b<=_;refine Nat.le_of_lt_succ (abq ?_);have k:=Wi j (show 2^aZ d+1+1<=2^aZ d+1+1 from Vo _);have C:2^aX d b*(2^aZ d+1+1)=2^aZ d*2^aX d b+2^aX d b+2^aX d b:=by rw[VM,VM,XN,VE (2^aX d b) (2^aZ d)]
  show _<cU d b*(2^aZ d+1+1);omega
 have sB:Bd ((dT d b:Int):Rat) (p2 (aZ d)+1):=by
  have c:=gm nB;rw[fk,tD]at c;have n0:=bL (cC d b);unfold dT;split
  ·rw[VQ,Wh];constructor<;>grind
  ·rw[Wh];constructor<;>grind
 refine⟨N,fun n S=>?_⟩;obtain⟨A,B⟩:=l n S;have y:=NF (d:=d) (b:=b);have G:Bd (((b8 d b).int:Rat)-(d.rat-(dT d b:Rat)*cz n)*p2 (aX d b)) (1+(p2 (aZ d)+1)*65537):=by
  rw[y,Yk,VG];have P:((cU d b:Nat):Int)=(((ii (aX d b)).n/2:Nat):Int):=rfl;rw[P,Wh];have m:=sB.mul (show Bd (((ii (aX d b)).n/2:Nat)-cz n*p2 (aX d b)) 65537 from⟨A,B⟩);obtain⟨u,v⟩:=m;have ex:bO d b=Fx.of d (aX d b):=rfl;rw[ex];constructor<;>grind
 have t:(dr d b).n=(b8 d b).n/2^(aZ d+40):=rfl;have w:(dr d b).neg=(b8 d b).neg:=rfl;obtain⟨L,M⟩:=qS (a:=(b8 d b).n) (d:=2^(aZ d+40)) (Vl _);rw[tD,V0]at L M;rw[Bv,t,w];have s:=Bv (b8 d b);have f:=fh (aZ d+40);have g:=Rat.inv_pos.2 f;have p:=cW f;have x:p2 (aX d b)=p2 b*p2 (aZ d+40):=by rw[i,ju]
 rw[x]at G;have pT:=fh (aZ d);have z:p2 (aZ d+40)=p2 (aZ d)*1099511627776:=by rw[ju];rfl
 have h:1+(p2 (aZ d)+1)*65537<=p2 (aZ d+40):=by
  have:1<=p2 (aZ d):=by have:=i8 (aZ d);have:=bL (aZ d);grind
  rw[z];grind
 obtain⟨H,J⟩:=G;generalize (d.rat-(dT d b:Rat)*cz n)=v at *
 rw[s]at H J;generalize p2 (aZ d+40)=W at *
 have T:=mul_nn (show 0<=W-(hO (b8 d b).neg*((b8 d b).n:Rat)-v*(p2 b*W)) by grind) (Vj g);have C:=mul_nn (show 0<=W+(hO (b8 d b).neg*((b8 d b).n:Rat)-v*(p2 b*W)) by grind) (Vj g);have K:v*(p2 b*W)*W⁻¹=v*p2 b:=by
  have:v*(p2 b*W)*W⁻¹=v*p2 b*(W*W⁻¹):=by grind
  rw[this,p,VP]
 have l1:hO (b8 d b).neg*((b8 d b).n:Rat)*W⁻¹-v*p2 b<=1:=by grind
 have l2:-1<=hO (b8 d b).neg*((b8 d b).n:Rat)*W⁻¹-v*p2 b:=by grind
 clear T C H J s y K A B l;have o:=U5 (b8 d b).neg;generalize hO (b8 d b).neg=σ at *
 generalize (((b8 d b).n/2^(aZ d+40):Nat):Rat)=Q at *
 generalize ((b8 d b).n:Rat)=R at *
 clear t w nB j E D F i e x z h sB U Y;rcases o with rfl|rfl<;>constructor<;>grind
theorem Ps {a:Fx}{b:Nat}{p:Int}(i:af p=true)(g:ac a.n<=4000)(h:b<=8000):Iv.near a b p=(Iv.mk (cM a b) (cN a b) false).rnd p/\(cM a b).Ok/\(cN a b).Ok:=by
 obtain⟨e,f⟩:=zu g h;obtain⟨j,l⟩:=rS (a:=a) (b:=b) (by omega);have c:(cM a b).Ok:=Dy.of_ok e;have d:(cN a b).Ok:=Dy.of_ok f;have k:(Iv.mk (cM a b) (cN a b) false).known=true:=by
  refine fv c d ?_;rw[j,l];exact VB (by omega) (Vu (bf _))
 refine⟨?_,c,d⟩;unfold Iv.near Iv.rnd;rw[e,f,k,i]
theorem Lb {a:Fx}{b:Nat}{p:Int}{q:Rat}(g:af p=true)(d:ac a.n<=4000)(f:b<=8000)(h:Bd ((a.int:Rat)-q*p2 b) 16777216):(Iv.near a b p).In q:=by
 obtain⟨e,i,j⟩:=Ps g d f;rw[e];refine uq ⟨i.w,j.w⟩ fun _=>?_
 obtain⟨k,l⟩:=rS (a:=a) (b:=b) (by omega);show(((cM a b).val:Int):Rat)<=_/\_<=(((cN a b).val:Int):Rat);have c:((2^24:Int):Rat)=16777216:=rfl;rw[k,l,VG,VG,Yk,Wg,c,mc];have es:sc=p2 b*p2 (16384-b):=(mc 16384).trans ((W2 p2 (show 16384=b+(16384-b) by omega)).trans (ju _ _));rw[es];have P:=fh (16384-b);obtain⟨u,v⟩:=h;have m:=mul_nn (show 0<=16777216+((a.int:Rat)-q*p2 b) by grind) (Vj P);have n:=mul_nn (show 0<=16777216-((a.int:Rat)-q*p2 b) by grind) (Vj P);generalize p2 (16384-b)=W at *
 constructor<;>grind
theorem N9 {a:Fx}{b:Nat}{p:Int}{s:Nat->Rat}(g:af p=true)(d:ac a.n<=4000)(e:b<=8000)(h:∃N,∀n,N<=n->Bd ((a.int:Rat)-s n*p2 b) 16777216):(Iv.near a b p).Has s:=by
 obtain⟨N,c⟩:=h;exact Iv.Has.of_ev N fun n f=>Lb g d e (c n f)
def Fn (c:Bool)(u:Nat->Rat):Nat->Rat:=if c then Co u else Si u
theorem vt {c:Bool}{u:Nat->Rat}(a:Bnd u):LBd (Fn c u) (fun _=>1):=by
 unfold Fn;cases c
 ·exact(UW a).2
 ·exact(UW a).1
def cK (q:Rat):Nat->Rat:=fun _=>q
theorem vD (q:Rat):Bnd (cK q):=Bnd.const q
theorem zD {d:Dy}{c:Bool}{b:Nat}(ok:d.Ok)(hb:72<=b)(m:b<=1000)(ht:d.top<=128) :
 ∃N,∀n,N<=n->Bd (((dL d c b).int:Rat)-Fn c (cK d.rat) n*p2 b) 100000:=by
 have l:=fh b;have Bi:=Rat.inv_pos.2 l;have t:=cW l;have⟨r,z⟩:∃r:Rat,r=((dr d b).int:Rat)*(p2 b)⁻¹:=⟨_,rfl⟩
 have hr:((dr d b).int:Rat)=r*p2 b:=by rw[z,VR,Wx (p2 b)⁻¹,t,VP]
 obtain⟨N1,G⟩:=NN hr (sQ d b) (by omega);obtain⟨x,H⟩:=LD ok (by omega) m ht;have bb:=gm m;rw[show((1000:Nat):Rat)=1000 from rfl]at bb;have⟨v,hv⟩:∃v:Nat->Rat,v=fun n=>d.rat-(dT d b:Rat)*cz n:=⟨_,rfl⟩
 have M:Bnd v:=by rw[hv];exact(Bnd.const _).sub ((Bnd.const _).mul Bs)
 have⟨f,j⟩:∃f:Rat,f=2*(p2 b)⁻¹:=⟨_,rfl⟩
 have i:0<f:=by rw[j];grind
 have B2:2<=p2 b:=by have:=i8 b;have:=gm hb;rw[show((72:Nat):Rat)=72 from rfl]at this;grind
 have E:f<=1:=by
  have:=Vq B2 (Vj Bi);rw[t]at this;rw[j];exact this
 have F:f*p2 b=2:=by rw[j,VR,Wx (p2 b)⁻¹,t,VP]
 have near:∀n,x<=n->Bd (r-v n) f:=fun n hn=>by
  obtain⟨a1,a2⟩:=H n hn;rw[hr]at a1 a2;rw[hv];constructor
  ·refine Vw (c:=p2 b) ?_ l;grind
  ·refine Vw (c:=p2 b) ?_ l;grind
 obtain⟨lc,ls⟩:=Sl (u:=fun _=>r) (v:=v) (Bnd.const r) M E x near;obtain⟨N3,I⟩:=lc f i;obtain⟨N4,J⟩:=ls f i;obtain⟨C,D⟩:=z6 M (dT d b);have U:(fun n=>v n+(dT d b:Rat)*cz n)=cK d.rat:=funext fun n=>by rw[hv];show _=d.rat;grind
 rw[U]at C D;obtain⟨N5,K⟩:=C f i;obtain⟨N6,L⟩:=D f i;refine⟨max (max N1 x) (max (max N3 N4) (max N5 N6)),fun n hn=>?_⟩;obtain⟨⟨p1,B⟩,q1,q2⟩:=G n (by omega);have O:=I n (by omega);have P:=J n (by omega);have Q:Bd (Co (cK d.rat) n-(cI (dT d b)*Co v n-sI (dT d b)*Si v n)) f:=K n (by omega);have S:Bd (Si (cK d.rat) n-(sI (dT d b)*Co v n+cI (dT d b)*Si v n)) f:=L n (by omega);have g:∀{y k:Rat},Bd y (k*f)->Bd (y*p2 b) (2*k):=fun{y k} ⟨u,w⟩=>by
  have m1:=mul_nn (show 0<=k*f-y by grind) (Vj l);have m2:=mul_nn (show 0<=k*f+y by grind) (Vj l);have e:k*f*p2 b=2*k:=by rw[VR,F,Wx]
  constructor<;>grind
 have f3:Bd ((cs r n-Co v n)*p2 b) 8:=by
  have:=g (y:=cs r n-Co v n) (k:=4) (by obtain⟨a,b⟩:=O;exact⟨by show _<=cs r n-Co v n;have:Co (fun _=>r) n=cs r n:=rfl;grind,by have:Co (fun _=>r) n=cs r n:=rfl;grind⟩);obtain⟨a,b⟩:=this;exact⟨by grind,by grind⟩
 have f4:Bd ((ss r n-Si v n)*p2 b) 8:=by
  have:=g (y:=ss r n-Si v n) (k:=4) (by obtain⟨a,b⟩:=P;exact⟨by have:Si (fun _=>r) n=ss r n:=rfl;grind,by have:Si (fun _=>r) n=ss r n:=rfl;grind⟩);obtain⟨a,b⟩:=this;exact⟨by grind,by grind⟩
 have f5:=g (k:=1) (by rw[WB];exact Q);have f6:=g (k:=1) (by rw[WB];exact S);have km:=NG d b;have⟨s,A⟩:∃s,s=dk (dr d b) b:=⟨_,rfl⟩
 have o:dL d c b=if(ez d b+if c then 1 else 0)%4=1 then s.2 else if(ez d b+if c then 1 else 0)%4=2 then s.1.minus else if(ez d b+if c then 1 else 0)%4=3 then s.2.minus else s.1:=by rw[A];rfl
 rw[<-A]at p1 B q1 q2;rw[o];clear o A G H I J K L C D U lc ls O P Q S g near;have hc:∀c:Bool,(c=true\/c=false):=fun c=>by cases c<;>simp
 obtain⟨g1,g2⟩:=f3;obtain⟨g3,g4⟩:=f4;obtain⟨W,Y⟩:=f5;obtain⟨Z,g8⟩:=f6;generalize Co v n=CV at *
 generalize Si v n=SV at *
 have T:Co (cK d.rat) n=Fn true (cK d.rat) n:=rfl;have es:Si (cK d.rat) n=Fn false (cK d.rat) n:=rfl;rw[T]at W Y;rw[es]at Z g8;clear T es;rcases Dw (dT d b)with ⟨h,p,q⟩|⟨h,p,q⟩|⟨h,p,q⟩|⟨h,p,q⟩<;>rw[p,q]at W Y Z g8<;>cases c<;>simp only[Wm,Vv,V8]
 ·rw[Vk (by omega),Vk (by omega),Vk (by omega)];constructor<;>grind
 ·rw[Vh (by omega)];constructor<;>grind
 ·rw[Vh (by omega)];constructor<;>grind
 ·rw[Vk (by omega),Vh (by omega),pW,VQ];constructor<;>grind
 ·rw[Vk (by omega),Vh (by omega),pW,VQ];constructor<;>grind
 ·rw[Vk (by omega),Vk (by omega),Vh (by omega),pW,VQ];constructor<;>grind
 ·rw[Vk (by omega),Vk (by omega),Vh (by omega),pW,VQ];constructor<;>grind
 ·rw[Vk (by omega),Vk (by omega),Vk (by omega)];constructor<;>grind
theorem Ue {d:Dy}{c:Bool}{b:Nat}(ok:d.Ok)(m:72<=b)(h:b<=1000)(o:d.top<=128):(dL d c b).n+2^24<=2*2^b/\ac (dL d c b).n<=4000:=by
 obtain⟨N,l⟩:=zD (c:=c) ok m h o;obtain⟨M,hM⟩:=vt (c:=c) (vD d.rat) (1/2) (by grind);obtain⟨p,q⟩:=l (max N M) (by omega);obtain⟨r,t⟩:=hM (max N M) (by omega);have k:=fh b;have f:(2:Rat)^0*134217728<=p2 b:=by
  have:=gm (Vg (show 0<2 by omega) (show 27<=b by omega));have e:((2^27:Nat):Rat)=134217728:=rfl;rw[e]at this;have g:(2:Rat)^0=1:=rfl;rw[g,WB];exact this
 have g:(2:Rat)^0=1:=rfl;rw[g,WB]at f;have y:=mul_nn (show 0<=3/2-Fn c (cK d.rat) (max N M) by grind) (Vj k);have z:=mul_nn (show 0<=3/2+Fn c (cK d.rat) (max N M) by grind) (Vj k);have s:=Bv (dL d c b);have n:=U5 (dL d c b).neg;have i:((dL d c b).n:Rat)+16777216<=2*p2 b:=by
  generalize hO (dL d c b).neg=A at *
  rcases n with rfl|rfl<;>grind
 have j:(dL d c b).n+2^24<=2*2^b:=by
  refine Rat.natCast_le_natCast.1 ?_;rw[XF,W5];exact i
 refine⟨j,?_⟩;have u:=qY (a:=2) (b:=2^b);have v:ac 2=2:=by decide
 have w:=pU b;have x:=dW (show(dL d c b).n<=2*2^b by omega);omega
theorem yf : Si (cK 0)=fun _=>0:=funext fun n=>yA n
theorem xd : Co (cK 0)=fun _=>1:=funext fun n=>xe n
theorem x8 : (nD 1).rat=1:=ob 1
theorem AZ {d:Dy}{c:Bool}{p:Int}(ok:d.Ok)(g:af p=true)(h:d.top<=128):(jv d c p.toNat).Bt (-pw 16385) (pw 16385)/\(jv d c p.toNat).Has (Fn c (cK d.rat)):=by
 obtain⟨m,o⟩:=xX g;unfold jv;have q:=bf 16384;have r:pw 16385=2*pw 16384:=eE 16384;split
 ·rename_i f;rw[q8 f];cases c
  ·simp only[Vv,V8];have z:d.val=0:=by have:=pX d;have:=Dy.absN_nil f;omega
   refine⟨⟨fv ok ok (VL _),by show _<=d.val;omega,by show d.val<=_;omega⟩,?_⟩;show(Iv.pt d).Has (Si (cK 0));rw[yf];have:=ej d;rw[q8 f]at this;exact this.has
  ·simp only[Wm];have z:(nD 1).val=1*pw 16384:=iP;refine⟨⟨fv nD1 nD1 (VL _),by show _<=(nD 1).val;omega,by show(nD 1).val<=_;omega⟩,?_⟩;show(Iv.pt (nD 1)).Has (Co (cK 0));rw[xd];have:=ej (nD 1);rw[x8]at this;exact this.has
 ·obtain⟨k,l⟩:=Ue (c:=c) ok (b:=p.toNat+64) (by omega) (by omega) h;have e:((p.toNat:Nat):Int)=p:=by omega
  rw[e];refine⟨Oa g (by omega) k,N9 g l (by omega) ?_⟩;obtain⟨N,i⟩:=zD (c:=c) ok (b:=p.toNat+64) (by omega) (by omega) h;exact⟨N,fun n j=>by obtain⟨a,b⟩:=i n j;exact⟨by grind,by grind⟩⟩
def pis : Nat->Rat:=fun n=>2*cz n
theorem N7 : (nD (-1)).rat=-1:=ob (-1)
theorem Ol {c:Bool}{u:Nat->Rat}(a:Bnd u):unitI.Has (Fn c u):=by
 have h:=vt (c:=c) a;refine sW tq fun _=>?_
 show SLe (fun _=>(nD (-1)).rat) _/\SLe _ (fun _=>(nD 1).rat);rw[N7,x8];exact⟨h.sge,h.sle⟩
theorem T6 {x:Iv}(w:x.W)(g:x.Gd):x.neg.Gd:=by
 rcases g with rfl|k
 ·left;rfl
 ·obtain⟨a,b⟩:=bg w k;exact .inr (ma w ⟨k,VL _,VL _⟩).k
def un (x:Fx)(b:Nat):Rat:=(x.n:Rat)*(p2 b)⁻¹
theorem BF {z:Rat}(e:0<=z)(f:z<=1)(j:Nat):od z j<=z:=by
 induction j with
 |zero=>exact V2
 |succ j g=>
  have o:=gp e j;have h:z*z<=1:=by have:=eD (a:=z) (b:=1) (c:=z) (d:=1) f f (by decide) e;grind
  have:=mul_nn o (show 0<=1-z*z by grind);simp only[od];grind
theorem Null.of_ev {s t:Nat->Rat}(b:Null t)(N:Nat)(h:∀n,N<=n->s n=t n):Null s:=fun c a=>by
 obtain⟨M,hM⟩:=b c a;exact⟨max N M,fun n d=>by rw[h n (by omega)];exact hM n (by omega)⟩
theorem neg'_same {d:Dy}:d.neg'.m=d.m/\d.neg'.e=d.e/\d.neg'.top=d.top:=⟨rfl,rfl,rfl⟩
theorem A9 {d:Dy}{e:Int}(a:d.m≠[])(c:e<=d.e):ac (a7 d e)<=(d.top-e).toNat:=by
 unfold a7;have:=Uk (n:=aa d.m) (s:=(d.e-e).toNat);have b:d.top=ac (aa d.m)+d.e:=by unfold Dy.top;rw[Vk a]
 omega
theorem Ml {a b:Dy}(f:a.Ok)(g:b.Ok)(p:-2000<=a.e)(q:-2000<=b.e)(r:a.top<=1000)(tb:b.top<=1000):(a.sum b).Ok:=by
 unfold Dy.sum;by_cases c:a.m=[]
 ·rw[Vh c];exact g
 ·by_cases d:b.m=[]
  ·rw[Vk c,Vh d];exact f
  ·rw[Vk c,Vk d];have⟨e,j⟩:∃e,e=min a.e b.e:=⟨_,rfl⟩
   simp only[<-j];have n:=f.elo;have o:=g.elo
   have m:a.e<=1000:=by
    have:a.top=ac (aa a.m)+a.e:=by{ unfold Dy.top;rw[Vk c] }
    omega
   have h:=A9 c (show e<=a.e by omega);have i:=A9 d (show e<=b.e by omega);have l:=uE (k:=3000) (Vp h (by omega)) (Vp i (by omega));split
   ·exact Dy.of_ok (Dy.of_inR (by omega) (by omega) (by omega))
   ·split
    ·have:=dW (Xq (a7 a e) (a7 b e));exact Dy.of_ok (Dy.of_inR (by omega) (by omega) (by omega))
    ·have:=dW (Xq (a7 b e) (a7 a e));exact Dy.of_ok (Dy.of_inR (by omega) (by omega) (by omega))
