/- Parts of the proof: FpYh, FpYi, FpYj, FpYk. -/
import Derived.Test.YtfioikimlnlcbaaGreatDoorYa
import Derived.Test.YtfioikimlnlcbaaGreatDoorYb
import Derived.Test.YtfioikimlnlcbaaGreatDoorYc
namespace Go.Abs.W
theorem qahb : ∀w:Nat,40<=w->w<=103->okH (halfS w) w=true:=by
 intro w h1 h2;obtain⟨i,rfl⟩:∃i,w=40+i:=⟨w-40,by omega⟩
 match i with
 |0=>exact hw40
 |1=>exact hw41
 |2=>exact hw42
 |3=>exact hw43
 |4=>exact hw44
 |5=>exact hw45
 |6=>exact hw46
 |7=>exact hw47
 |8=>exact hw48
 |9=>exact hw49
 |10=>exact hw50
 |11=>exact hw51
 |12=>exact hw52
 |13=>exact hw53
 |14=>exact hw54
 |15=>exact hw55
 |16=>exact hw56
 |17=>exact hw57
 |18=>exact hw58
 |19=>exact hw59
 |20=>exact hw60
 |21=>exact hw61
 |22=>exact hw62
 |23=>exact hw63
 |24=>exact hw64
 |25=>exact hw65
 |26=>exact hw66
 |27=>exact hw67
 |28=>exact hw68
 |29=>exact hw69
 |30=>exact hw70
 |31=>exact hw71
 |32=>exact hw72
 |33=>exact hw73
 |34=>exact hw74
 |35=>exact hw75
 |36=>exact hw76
 |37=>exact hw77
 |38=>exact hw78
 |39=>exact hw79
 |40=>exact hw80
 |41=>exact hw81
 |42=>exact hw82
 |43=>exact hw83
 |44=>exact hw84
 |45=>exact hw85
 |46=>exact hw86
 |47=>exact hw87
 |48=>exact hw88
 |49=>exact hw89
 |50=>exact hw90
 |51=>exact hw91
 |52=>exact hw92
 |53=>exact hw93
 |54=>exact hw94
 |55=>exact hw95
 |56=>exact hw96
 |57=>exact hw97
 |58=>exact hw98
 |59=>exact hw99
 |60=>exact hw100
 |61=>exact hw101
 |62=>exact hw102
 |63=>exact hw103
 |i+64=>omega
theorem qgz {w:Nat}(h1:40<=w)(h2:w<=103):HalfOk (halfS w) w:=by
 have h:=qahb w h1 h2;generalize halfS w=x at *
 simp only[okH,Bool.and_eq_true,decide_eq_true_eq,Bool.not_eq_true']at h;obtain⟨⟨⟨⟨⟨⟨⟨⟨⟨⟨⟨⟨n1,n2⟩,n0⟩,n0'⟩,b1⟩,b2⟩,t1⟩,t2⟩,e1⟩,e2⟩,v1⟩,v2⟩,v3⟩:=h;have q1:=q_val (x:=x.lo) (K:=200) (by omega);have q2:=q_val (x:=x.hi) (K:=200) (by omega);have hz:=Rat.le_of_lt (qje (-200));have hz1:((2^200:Int):Rat)*2^(-200:Int)=1:=by
  have:=qxr 200;rw[show(200:Int)=((200:Nat):Int) from rfl,<-qmm]at this;exact this
 have hM2:(2:Int)^200=2*2^199:=rfl;have⟨M,hM⟩:∃M:Int,M=2^199:=⟨_,rfl⟩
 rw[hM2]at v2 v3 hz1;rw[<-hM]at v1 v2 v3 hz1;generalize (2:Rat)^(-200:Int)=z at *
 generalize x.lo.val 200=u at *
 generalize x.hi.val 200=v at *
 have c1:=rmulR (qf3 v1) hz;have c2:=rmulR (qf3 v2) hz;have c3:=rmulR (qf3 v3) hz
 push_cast at c1 c2 c3 hz1
 refine⟨⟨⟨b1,by omega,by omega⟩,⟨b2,by omega,by omega⟩⟩,⟨n0,n0',by omega,by omega⟩,?_,?_,?_,?_⟩
 ·rw[q1];grind
 ·rw[q2];grind
 ·rw[q1,q2];grind
 ·simp[Nm.sgn,n0,n1]
set_option maxRecDepth 20000
def seK (f i:Nat):Nat:=(f+2*i+1)*(f+2*i+2)
def seS (r:Sp)(f w:Nat):Nat->Sp × Sp
 |0=>(Sp.zero,if f=1 then r else Sp.pt (Nm.whole 1))
 |i+1=>((seS r f w i).1.sum (seS r f w i).2 w,((seS r f w i).2.prod (r.prod r w).opp w).quo (Sp.pt (Nm.whole (seK f i:Nat))) w)
def qjr (r:Sp)(f w:Nat):Sp:=(seS r f w (w/2+8)).1.sum (seS r f w (w/2+8)).2.ar w
theorem qaeq {f i:Nat}(hf:f<=1)(hi:i<=1000):0<seK f i/\seK f i<=1073741824:=by
 unfold seK;refine⟨Nat.mul_pos (by omega) (by omega),?_⟩;exact Nat.le_trans (Nat.mul_le_mul (show f+2*i+1<=2100 by omega) (show f+2*i+2<=2100 by omega)) (by omega)
theorem oneZ {w:Nat}{t:Int}(ht:1<=t):(Sp.pt (Nm.whole 1)).Z w t:=by
 have b1:bitL (Nm.whole 1).n=1:=rfl;have e1:(Nm.whole 1).e=0:=rfl;exact pt_S ⟨by rw[b1];omega,by rw[e1];omega,by rw[b1,e1];omega⟩
theorem sqZ {r:Sp}{w:Nat}(hr:r.Z w 40)(hp:0<w):(r.prod r w).opp.Z w 81:=qyr (prodZ hr hr hp (by omega) (by omega))
theorem seSZ {r:Sp}{f w:Nat}(hr:r.Z w 40)(hf:f<=1)(hp:0<w):∀i:Nat,i<=600->(seS r f w i).1.Z w (83*i+42)/\(seS r f w i).2.Z w (83*i+40)
 |0,_=>by
  refine⟨zeroZ (by omega),?_⟩;unfold seS;simp only;split
  ·exact hr.mono (Nat.le_refl _) (by omega) (by omega)
  ·exact oneZ (by omega)
 |i+1,hi=>by
  obtain⟨h1,h2⟩:=seSZ hr hf hp i (by omega);have s:=sumZ (t:=83*i+42) h1 (h2.mono (Nat.le_refl _) (by omega) (by omega)) hp (by omega);have p:=prodZ h2 (sqZ hr hp) hp (by omega) (by omega);obtain⟨k1,k2⟩:=qaeq hf (i:=i) (by omega);have q:=quoZ (n:=(seK f i:Nat)) p (by omega) (by omega) hp (by omega);exact⟨s.mono (Nat.le_refl _) (by omega) (by push_cast;omega),q.mono (Nat.le_refl _) (by omega) (by push_cast;omega)⟩
theorem qagf {r:Sp}{f w:Nat}(hr:r.Z w 40)(hf:f<=1)(hp:0<w)(hp2:w<=200):(qjr r f w).Z w 10000:=by
 obtain⟨h1,h2⟩:=seSZ hr hf hp (w/2+8) (by omega);have:=sumZ (t:=83*(w/2+8:Nat)+42) h1 ((ar_S h2).mono (Nat.le_refl _) (by omega) (by omega)) hp (by omega);exact this.mono (Nat.le_refl _) (by omega) (by push_cast;omega)
set_option maxHeartbeats 4000000 in
theorem q6i (r:Sp)(f w:Nat)(hr:r.Z w 40)(hf:f<=1)(hp:0<w)(hp2:w<=200):CQ prog qzd [r.v,.int .i64 f,.int .i64 w] (qjr r f w).v:=by
 refine qaf rfl fun H=>?_
 have hl:∀k,¬(H.length+k<H.length):=by intro k;omega
 have⟨K,hK⟩:∃K,K=w/2+8:=⟨_,rfl⟩
 have az:=fun i hi=>seSZ (w:=w) hr hf hp i hi
 have sqz:=sqZ hr hp;have bsq:=q0f hr hr hp (by omega) (by omega) (by omega) (by omega);have bop:=qfz (r.prod r w);have w0:IntKind.i64.wrap ((w:Int)/2)=(w:Int)/2:=by rw[wrap_i64]<;>omega
 have w1:IntKind.i64.wrap ((w:Int)/2+8)=(K:Int):=by rw[wrap_i64]<;>omega
 have ha:qjr r f w=(seS r f w K).1.sum (seS r f w K).2.ar w:=by rw[hK];rfl
 rw[ha];have h00:(seS r f w 0).1=Sp.zero:=rfl;have h01:(seS r f w 0).2=if f=1 then r else Sp.pt (Nm.whole 1):=rfl;have hstep:∀i,(seS r f w (i+1)).1=(seS r f w i).1.sum (seS r f w i).2 w/\(seS r f w (i+1)).2=((seS r f w i).2.prod (r.prod r w).opp w).quo (Sp.pt (Nm.whole (seK f i:Nat))) w:=fun i=>⟨rfl,rfl⟩
 have⟨sq,hsq⟩:∃sq,sq=(r.prod r w).opp:=⟨_,rfl⟩
 rw[<-hsq]at bop sqz hstep;have main:∀(E:Env),E 2=.int .i64 w->E 6=.ptr (H.length+1) 0 0->E 7=.ptr (H.length+2) 0 0->E 8=.ptr (H.length+3) 0 0->E 9=.ptr (H.length+4) 0 0->E 10=.int .i64 f->E 25=.int .i64 K->E 26=.int .i64 0 ->
  WK prog H.length (.loop qda) [.blk 0,.seq (.seq (.region true qk1) .ret)] E (H++[some ⟨7,[r.v],false,true⟩,some ⟨7,[.agg [.bool false,.nil,.int .i64 0,.bool false,.nil,.int .i64 0,.bool false]],false,true⟩,some ⟨7,[(seS r f w 0).2.v],false,true⟩,some ⟨7,[sq.v],false,true⟩,some ⟨7,[.agg [.bool false,.nil,.int .i64 0,.bool false,.nil,.int .i64 0,.bool false]],false,true⟩])
   (fun x_1 E1 H1=>(x_1=.normal\/x_1=.ret)/\∃v0,resV E1 H1 [.cell 6 true 7]=some v0/\Go.Abs.fin false H.length H1 v0=some (((seS r f w K).1.sum (seS r f w K).2.ar w).v,H)):=by
  intro E h2 h6 h7 h8 h9 h10 h25 h26;refine WK_up (fun i E H'=>E 2=.int .i64 w/\E 6=.ptr (H.length+1) 0 0/\E 7=.ptr (H.length+2) 0 0/\E 8=.ptr (H.length+3) 0 0/\E 9=.ptr (H.length+4) 0 0/\E 10=.int .i64 ((f+2*i:Nat):Int)/\E 25=.int .i64 K/\E 26=.int .i64 i /\
   ∃v9,H'=H++[some ⟨7,[r.v],false,true⟩,some ⟨7,[.agg [.bool false,.nil,.int .i64 0,.bool false,.nil,.int .i64 0,.bool false]],false,true⟩,some ⟨7,[(seS r f w i).2.v],false,true⟩,some ⟨7,[sq.v],false,true⟩,some ⟨7,[v9],false,true⟩] /\
    (i=0->v9=.agg [.bool false,.nil,.int .i64 0,.bool false,.nil,.int .i64 0,.bool false])/\(0<i->v9=(seS r f w i).1.v)) K ?_ ?_
  ·exact⟨h2,h6,h7,h8,h9,by rw[h10];simp,h25,by rw[h26];rfl,_,rfl,fun _=>rfl,fun h=>by omega⟩
  ·rintro i E H' hi ⟨h2,h6,h7,h8,h9,h10,h25,h26,v9,rfl,hz,hv⟩;rcases Nat.lt_or_ge i K with hlt|hge
   ·obtain⟨z1,z2⟩:=az i (by omega);obtain⟨m1,m2⟩:=qaeq hf (i:=i) (by omega);obtain⟨st1,st2⟩:=hstep i;have bs:=bsumZ (t:=83*i+42) z1 (z2.mono (Nat.le_refl _) (by omega) (by omega)) hp (by omega) (by omega) (by omega);have bpr:=q0f z2 sqz hp (by omega) (by omega) (by omega) (by omega);have pz:=prodZ z2 sqz hp (by omega) (by omega);have bw:=qdb (seK f i:Nat) (by omega) (by omega);have bpt:=qfy (Nm.whole (seK f i:Nat));have bq:=bquoZ (w:=w) (n:=(seK f i:Nat)) pz (by omega) (by omega) (by omega) (by omega) hp (by omega) (by omega);have⟨kk,hkk⟩:∃kk,kk=f+2*i:=⟨_,rfl⟩
    have hm:((kk:Int)+1)*((kk:Int)+2)=(seK f i:Nat):=by unfold seK;rw[<-hkk];push_cast;rfl
    have f1:IntKind.i64.wrap ((kk:Int)+1)=(kk:Int)+1:=by rw[wrap_i64]<;>omega
    have f2:IntKind.i64.wrap ((kk:Int)+2)=(kk:Int)+2:=by rw[wrap_i64]<;>omega
    have f5:IntKind.i64.wrap (((kk:Int)+1)*((kk:Int)+2))=(seK f i:Nat):=by rw[hm,wrap_i64]<;>omega
    have f2':IntKind.i64.wrap ((kk:Int)+2)=((f+2*(i+1):Nat):Int):=by rw[wrap_i64]<;>omega
    have f3:IntKind.i64.wrap ((i:Int)+1)=((i+1:Nat):Int):=by rw[wrap_i64]<;>omega
    have hlt':(i:Int)<K:=by omega
    rw[<-hkk]at h10;clear hm;generalize seK f i=M at *
    rw[<-st1]at bs;rw[<-st2]at bq;have⟨A,hA⟩:∃A,A=(seS r f w (i+1)).1:=⟨_,rfl⟩
    have⟨B,hB⟩:∃B,B=(seS r f w (i+1)).2:=⟨_,rfl⟩
    rw[<-hA]at bs ⊢;rw[<-hB]at bq ⊢;have⟨T,hT⟩:∃T,T=(seS r f w i).2:=⟨_,rfl⟩
    rw[<-hT]at bs bpr bq ⊢;generalize T.prod sq w=Pr at *
    have⟨wn,hwn⟩:∃wn,wn=Nm.whole (M:Int):=⟨_,rfl⟩
    rw[<-hwn]at bw bpt bq;have f6:((kk:Int)+1)*(kk+2)=((kk:Int)+1)*(kk+2):=rfl;by_cases hi0:i=0
    ·have v0:=hz hi0;subst v0;rw[show(seS r f w i).1=Sp.zero by rw[hi0];rfl]at bs;have f4:IntKind.i64.wrap 1=1:=rfl;simp[qda,h2,h25,h26,hlt,h7,h9];refine qau (args:=[.agg [.bool false,.nil,.int .i64 0,.bool false,.nil,.int .i64 0,.bool false],T.v,.int .i64 w]) (vs:=[Sp.zero.v,T.v,.int .i64 w]) rfl rfl (by rw[qil rfl];rfl) bs ?_;simp[h2,h7,h8,h9];refine zq bpr ?_;simp[h10,f1,f2,f5];refine zq bw ?_;simp;refine zq bpt ?_;simp[h2];refine zq bq ?_;simp[h2,h6,h7,h8,h9,h10,h25,h26,f2',f4,hi0]
    ·have v0:=hv (by omega);subst v0;simp[qda,h2,h25,h26,hlt,h7,h9];refine zq bs ?_;simp[h2,h7,h8,h9];refine zq bpr ?_;simp[h10,f1,f2,f5];refine zq bw ?_;simp;refine zq bpt ?_;simp[h2];refine zq bq ?_;simp[h2,h6,h7,h8,h9,h10,h25,h26,f2',f3]
   ·obtain rfl:i=K:=by omega
    have v0:=hv (by omega);subst v0;obtain⟨z1,z2⟩:=az i (by omega);have zB:=z2.B (by omega) (by omega);have ba:=qvo (seS r f w i).2 zB.1 zB.2;have bs:=bsumZ (t:=83*i+42) z1 ((ar_S z2).mono (Nat.le_refl _) (by omega) (by omega)) hp (by omega) (by omega) (by omega);simp[qda,h25,h26,h7,h9];refine zq ba ?_;simp[h2];refine zq bs ?_;simp[h6]
 simp;refine qab rfl rfl rfl (qdb 1 (by omega) (by omega)) ?_;simp;refine qab rfl rfl rfl (qfy (Nm.whole 1)) ?_;by_cases hf1:f=1
 ·rw[if_pos hf1]at h01;rw[h01]at main;subst hf1;simp[hl];refine zq bsq ?_;simp;refine zq bop ?_;simp[hl,w0,w1];simp at main;exact main _ (by simp) (by simp) (by simp) (by simp) (by simp) (by simp) (by simp) (by simp)
 ·rw[if_neg hf1]at h01;rw[h01]at main;have hf1':¬(f:Int)=1:=by omega
  simp[hl,hf1'];refine zq bsq ?_;simp;refine zq bop ?_;simp[hl,w0,w1];simp[Sp.pt]at main;exact main _ (by simp) (by simp) (by simp) (by simp) (by simp) (by simp) (by simp) (by simp)
end Go.Abs.W
namespace Go.Abs.W
set_option maxRecDepth 20000
def Nm.fl (x:Nm):Int:=if x.neg then -((x.n/2^(-x.e).toNat+(if x.n%2^(-x.e).toNat≠0 then 1 else 0):Nat):Int)else((x.n/2^(-x.e).toNat:Nat):Int)
theorem qyu (l:List Nat)(i:Nat):natB (l.drop i)<=natB l:=by
 rw[qcv l i];have:1*natB (l.drop i)<=32768^i*natB (l.drop i):=Nat.mul_le_mul_right _ (Nat.one_le_pow _ _ (by omega));omega
set_option maxHeartbeats 2000000 in
theorem q32 {n0:Nat}{Q:AX->Env->Heap->Prop}{Kf:List Fr}{E:Env}{H:Heap}(D:List Nat)(hD:D.length<=1000000)(_:LiB D)(hb:natB D<1000000000000000000)
 (h3:0<D.length->E 3=bl D) (h5:E 5=.int .i64 0) (h6:E 6=.int .i64 ((D.length:Int)-1))
 (hQ:∀E1,E1 1=E 1->E1 4=E 4->E1 5=.int .i64 (natB D:Nat)->WP prog n0 Q Kf (.exit 0) E1 H) :
 WK prog n0 (.loop qfs) Kf E H Q:=by
 refine WK_up (fun j E' H'=>H'=H/\E' 1=E 1/\E' 4=E 4/\(0<D.length->E' 3=bl D)/\E' 5=.int .i64 (natB (D.drop (D.length-j)):Nat)/\E' 6=.int .i64 ((D.length:Int)-1-j)) D.length ?_ ?_
 ·refine⟨rfl,rfl,rfl,h3,?_,?_⟩
  ·rw[h5,Nat.sub_zero,List.drop_of_length_le (Nat.le_refl _)];rfl
  ·rw[h6];simp
 ·rintro j E' H' hj ⟨rfl,g1,g4,g3,g5,g6⟩;rcases Nat.lt_or_ge j D.length with hlt|hge
  ·have⟨i,hi⟩:∃i,i=D.length-j-1:=⟨_,rfl⟩
   have g3':=g3 (by omega);clear g3;have hil:i<D.length:=by omega
   have e1:=qbs D i;have e2:=qyu D i;rw[qak hil]at e1;rw[show i+1=D.length-j by omega]at e1;have ei:(D.length:Int)-1-j=(i:Nat):=by omega
   have p0:(0:Int)<=(D.length:Int)-1-j:=by omega
   rw[ei]at g6;have w1:IntKind.i64.wrap ((natB (D.drop (D.length-j)):Int)*32768)=((natB (D.drop (D.length-j))*32768:Nat):Int):=by rw[wrap_i64]<;>omega
   have w2:IntKind.i64.wrap (((natB (D.drop (D.length-j))*32768:Nat):Int)+D[i])=((natB (D.drop i):Nat):Int):=by rw[wrap_i64]<;>omega
   have w3:IntKind.i64.wrap ((i:Int)-1)=(D.length:Int)-1-(j+1:Nat):=by rw[wrap_i64]<;>omega
   have hj1:D.length-(j+1)=i:=by omega
   rw[hj1];have⟨y,hy⟩:∃y,y=natB (D.drop (D.length-j)):=⟨_,rfl⟩
   have⟨z,hz⟩:∃z,z=natB (D.drop i):=⟨_,rfl⟩
   rw[<-hy]at w1 w2 g5;rw[<-hz]at w2 ⊢;have⟨y2,hy2⟩:∃y2,y2=y*32768:=⟨_,rfl⟩
   rw[<-hy2]at w1 w2;simp[qfs,bl,bdg,g1,show E' 3=.sl (D.map bdg) from g3',g4,g5,g6,w1,w2,w3,hil];try omega
  ·obtain rfl:j=D.length:=by omega
   have e0:(D.length:Int)-1-D.length=-1:=by omega
   rw[e0]at g6;rw[Nat.sub_self,List.drop_zero]at g5;simp[qfs,g6];exact hQ _ (by simp[g1]) (by simp[g4]) (by simp[g5])
theorem qtt (x:Nm)(hx:x.B)(h:x.n=0\/x.e<0)(hd:x.n/2^(-x.e).toNat<1000000000000000000):CQ prog q12 [x.v] (.int .i64 x.fl):=by
 refine qaf rfl fun H=>?_
 have hl:∀k,¬(H.length+k<H.length):=by intro k;omega
 have a1:=hx.len;have a2:=hx.lo;have a3:=hx.hi;have⟨k,hk⟩:∃k,k=(-x.e).toNat:=⟨_,rfl⟩
 have⟨d,hdd⟩:∃d,d=x.n/2^k:=⟨_,rfl⟩
 have hfl:x.fl=if x.neg then -((d+(if x.n%2^k≠0 then 1 else 0):Nat):Int)else(d:Int):=by unfold Nm.fl;rw[<-hk,<-hdd]
 rw[<-hk,<-hdd]at hd;rw[hfl];by_cases he:x.e<0
 ·have bd:=qxe x.n k (by omega) (by omega);rw[<-hdd]at bd;have w1:IntKind.i64.wrap (-x.e)=(k:Int):=by rw[wrap_i64]<;>omega
  have lD:=qa9 d;have vD:=qay d;have hD:(dgs d).length<=1000000:=Nat.le_trans (by rw[hdd];exact q19 a1) (by omega);have w2:IntKind.i64.wrap (((dgs d).length:Int)-1)=((dgs d).length:Int)-1:=by rw[wrap_i64]<;>omega
  have w3:IntKind.i64.wrap ((d:Int)+1)=((d+1:Nat):Int):=by rw[wrap_i64]<;>omega
  have w4:IntKind.i64.wrap (-(d:Int))=-(d:Int):=by rw[wrap_i64]<;>omega
  have w5:IntKind.i64.wrap (-((d+1:Nat):Int))=-((d+1:Nat):Int):=by rw[wrap_i64]<;>omega
  simp[he,w1];refine zq bd ?_;simp[bn,bl,w2];refine q32 (dgs d) hD lD (by rw[vD];exact hd) (by simp[bl]) (by simp) (by simp) ?_;intro E1 g1 g4 g5;rw[vD]at g5;simp at g1 g4;have⟨d1,hd1⟩:∃d1,d1=d+1:=⟨_,rfl⟩
  rw[<-hd1]at w3 w5;by_cases hr:x.n%2^k=0
  ·cases hn:x.neg
   ·simp[g1,g5]
   ·simp[g1,g4,g5,hr,w4]
  ·cases hn:x.neg
   ·simp[g1,g5]
   ·simp[g1,g4,g5,hr,w3,w5];omega
 ·have h0:x.n=0:=by rcases h with h|h<;>omega
  have d0:d=0:=by rw[hdd,h0,Nat.zero_div]
  have bn0:bn x.n=bn 0:=by rw[h0]
  have w6:IntKind.i64.wrap (-1)=-1:=rfl;simp[he,h0];refine qb6 rfl rfl rfl (q4o x.e ⟨fun h=>by simp,?_⟩);simp[w6];refine q32 [] (by simp) (by intro y hy;cases hy) (by decide) (by simp) (by simp) (by simp) ?_;intro E1 g1 g4 g5;simp at g1 g4;have w4:IntKind.i64.wrap 0=0:=rfl;cases hn:x.neg
  ·simp[g1,g5,natB,d0]
  ·simp[g1,g4,g5,natB,d0,w4]
end Go.Abs.W
namespace Go.Abs.W
set_option maxRecDepth 20000
def wvW (d:Nm)(p:Nat):Nat:=p+(max 0 d.tp).toNat+32
def wvQ (d:Nm)(w:Nat):Sp:=(Sp.pt d).quo (halfS w) w
def halfN : Nm:=⟨false,1,-1⟩
def wvN (d:Nm)(w:Nat):Int:=((wvQ d w).lo.add halfN).fl
def wvR (d:Nm)(w:Nat):Sp:=(Sp.pt d).sum ((Sp.pt (Nm.whole (wvN d w))).prod (halfS w) w).opp w
def wvK (n:Int)(turns:Nat):Nat:=((n+turns)%4).toNat
def wvS (d:Nm)(w turns:Nat):Sp:=qjr (wvR d w) (1-wvK (wvN d w) turns%2) w
def wvY (d:Nm)(w turns:Nat):Sp:=if 2<=wvK (wvN d w) turns then(wvS d w turns).opp else wvS d w turns
structure Nm.Wv (d:Nm):Prop where
 s:d.S 700 (-16384) 7
 tp:d.tp<=7
theorem halfN_S : halfN.S 1 (-16384) 8:=⟨by decide,by decide,by decide⟩
theorem wvQ_S {d:Nm}{w:Nat}(hd:d.S 700 (-16384) 7)(h1:40<=w)(h2:w<=103):(wvQ d w).S (w+1) (-16384) 8:=by
 have h:=qgz h1 h2;exact quo_S (pt_S hd) h.s h.d (by omega) (by omega)
theorem qvq (x:Nm):(x.add halfN).e<0:=by
 unfold Nm.add halfN;split
 ·simp
 split
 ·rename_i h;simp at h
 ·simp only;split
  ·simp only;omega
  split
  ·simp only;omega
  ·simp only;omega
theorem fl_bd {x:Nm}{w:Nat}{l:Int}(h:x.S w l 9)(he:x.e<0):x.n/2^(-x.e).toNat<=512/\-513<=x.fl/\x.fl<=513:=by
 have h1:x.n/2^(-x.e).toNat<2^9:=by
  rw[Nat.div_lt_iff_lt_mul (Nat.two_pow_pos _),<-Nat.pow_add];exact Nat.lt_of_lt_of_le (qbw x.n) (Nat.pow_le_pow_right (by omega) (by have:=h.t;omega))
 refine⟨by omega,?_⟩;unfold Nm.fl;generalize x.n/2^(-x.e).toNat=y at *
 split
 ·split<;>omega
 ·omega
theorem qaeb {d:Nm}{w:Nat}(hd:d.S 700 (-16384) 7)(h1:40<=w)(h2:w<=103) :
 (∃w',w'<=20000/\((wvQ d w).lo.add halfN).S w' (-16384) 9)/\((wvQ d w).lo.add halfN).e<0:=by
 have q:=(wvQ_S hd h1 h2).lo;exact⟨⟨_,by omega,add_S q halfN_S (by omega)⟩,qvq _⟩
theorem qaec {d:Nm}{w:Nat}(hd:d.S 700 (-16384) 7)(h1:40<=w)(h2:w<=103):-513<=wvN d w/\wvN d w<=513:=by
 obtain⟨⟨w',hw,s⟩,e⟩:=qaeb hd h1 h2;exact(fl_bd s e).2
theorem wn_Z {n:Int}{w:Nat}(h1:40<=w)(n1:-513<=n)(n2:n<=513):(Sp.pt (Nm.whole n)).Z w 31:=(pt_S (qri (by omega) (by omega))).mono (by omega) (by omega) (by omega)
theorem wvP_Z {d:Nm}{w:Nat}(hd:d.S 700 (-16384) 7)(h1:40<=w)(h2:w<=103):((Sp.pt (Nm.whole (wvN d w))).prod (halfS w) w).opp.Z w 33:=by
 obtain⟨n1,n2⟩:=qaec hd h1 h2;exact qyr (prodZ (wn_Z h1 n1 n2) (qgz h1 h2).s (by omega) (by omega) (by omega))
theorem wvR_Z {d:Nm}{w:Nat}(hd:d.S 700 (-16384) 7)(h1:40<=w)(h2:w<=103):(wvR d w).Z w 40:=
 (sum_S (t:=33) ((pt_S hd).mono (Nat.le_refl _) (by omega) (by omega)) (wvP_Z hd h1 h2) (by omega) (by omega) (by omega)).mono (Nat.le_refl _) (by omega) (by omega)
theorem wvY_Z {d:Nm}{w turns:Nat}(hd:d.S 700 (-16384) 7)(h1:40<=w)(h2:w<=103):(wvS d w turns).Z w 10000/\(wvY d w turns).Z w 10000:=by
 have s:=qagf (f:=1-wvK (wvN d w) turns%2) (wvR_Z hd h1 h2) (by omega) (by omega) (by omega);refine⟨s,?_⟩;unfold wvY;split
 ·exact qyr s
 ·exact s
theorem qn3 {d:Nm}{p:Nat}(hd:d.Wv)(h8:8<=p)(hp:p<=64):40<=wvW d p/\wvW d p<=103:=by
 have:=hd.tp;unfold wvW;omega
theorem tm4 (x:Int):-3<=x.tmod 4/\x.tmod 4<=3/\(x.tmod 4+4).tmod 4=x%4:=by
 rcases Int.le_total 0 x with h|h
 ·rw[Int.tmod_eq_emod_of_nonneg h,Int.tmod_eq_emod_of_nonneg (by omega)];omega
 ·obtain⟨y,rfl⟩:∃y,x=-y:=⟨-x,by omega⟩
  rw[Int.neg_tmod,Int.tmod_eq_emod_of_nonneg (a:=y) (by omega),Int.tmod_eq_emod_of_nonneg (by omega)];omega
set_option maxHeartbeats 4000000 in
theorem q4n (d:Nm)(hd:d.Wv)(turns p:Nat)(ht:turns<=1)(h8:8<=p)(hp:p<=64) :
 CQ prog q5x [d.v,.int .i64 turns,.int .i64 p] (.tup [(wvY d (wvW d p) turns).v,(wvQ d (wvW d p)).v]):=by
 refine qaf rfl fun H=>?_
 have hl:∀k,¬(H.length+k<H.length):=by intro k;omega
 obtain⟨h1,h2⟩:=qn3 hd h8 hp;have dS:=hd.s;have dtp:=hd.tp;have dB:=dS.B (by omega) (by omega) (by omega);have bt:=q2f d dB;have f1:IntKind.i64.wrap ((p:Int)+(if(0:Int)<d.tp then d.tp else 0))=(p:Int)+(if(0:Int)<d.tp then d.tp else 0):=by rw[wrap_i64]<;>split<;>omega
 have f2:IntKind.i64.wrap ((p:Int)+(if(0:Int)<d.tp then d.tp else 0)+32)=(wvW d p:Nat):=by unfold wvW;rw[wrap_i64]<;>split<;>omega
 have⟨w,hw⟩:∃w,w=wvW d p:=⟨_,rfl⟩
 rw[<-hw]at f2 h1 h2 ⊢;have hf:=qgz h1 h2;have bh:=qadw w (by omega) (by omega);have bp:=qfy d;have bq:=ql4 (Sp.pt d) (halfS w) w (by omega) (fun i=>qaet (pt_S dS) hf.s hf.d (by omega) (by omega) (by omega) (by omega) (by omega) (by omega) (by omega) (by omega) i) (by rw[hf.sg];omega);have qS:=wvQ_S dS h1 h2;obtain⟨⟨w',hw',nS⟩,ne⟩:=qaeb dS h1 h2;have bad:=qxf (wvQ d w).lo halfN (qS.lo.B (by omega) (by omega) (by omega)) (halfN_S.B (by omega) (by omega) (by omega));have bfl:=qtt ((wvQ d w).lo.add halfN) (nS.B (by omega) (by omega) (by omega)) (.inr ne) (by have:=(fl_bd nS ne).1;omega);obtain⟨n1,n2⟩:=qaec dS h1 h2;rw[show((wvQ d w).lo.add halfN).fl=wvN d w from rfl]at bfl;have bwh:=qdb (wvN d w) (by omega) (by omega);have bpn:=qfy (Nm.whole (wvN d w));have bpr:=q0f (wn_Z h1 n1 n2) hf.s (by omega) (by omega) (by omega) (by omega) (by omega);have bop:=qfz ((Sp.pt (Nm.whole (wvN d w))).prod (halfS w) w)
 have bsu:=qaam (Sp.pt d) _ w (l:=-16384) (t:=33) ((pt_S dS).mono (Nat.le_refl _) (by omega) (by omega)) (wvP_Z dS h1 h2) (by omega) (by omega) (by omega) (by omega) (by omega) (by omega) (by omega) (by omega);rw[show((Sp.pt d).sum ((Sp.pt (Nm.whole (wvN d w))).prod (halfS w) w).opp w)=wvR d w from rfl]at bsu;rw[show(Sp.pt d).quo (halfS w) w=wvQ d w from rfl]at bq;have kk:wvK (wvN d w) turns<=3:=by unfold wvK;omega
 have bse:=q6i (wvR d w) (1-wvK (wvN d w) turns%2) w (wvR_Z dS h1 h2) (by omega) (by omega) (by omega);have hS:qjr (wvR d w) (1-wvK (wvN d w) turns%2) w=wvS d w turns:=rfl;rw[hS]at bse;have bos:=qfz (wvS d w turns);have hY:wvY d w turns=if 2<=wvK (wvN d w) turns then(wvS d w turns).opp else wvS d w turns:=rfl;have hkd:wvK (wvN d w) turns=((wvN d w+turns)%4).toNat:=rfl;rw[hY];clear hY hS;generalize wvS d w turns=S at *
 generalize wvR d w=R at *
 generalize wvQ d w=q at *
 generalize halfS w=hh at *
 generalize wvN d w=n at *
 generalize wvK n turns=k at *
 have g1:IntKind.i64.wrap (n+(turns:Int))=n+turns:=by rw[wrap_i64]<;>omega
 simp;refine zq bt ?_;simp[f1,f2];refine zq bp ?_;simp;refine zq bh ?_;simp;refine zq bq ?_;simp[hl];refine qau (H1:=H++[some ⟨3,[d.v],false,true⟩,some ⟨7,[.agg [.bool false,.nil,.int .i64 0,.bool false,.nil,.int .i64 0,.bool false]],false,true⟩,some ⟨7,[.agg [.bool false,.nil,.int .i64 0,.bool false,.nil,.int .i64 0,.bool false]],false,true⟩,some ⟨7,[q.v],false,true⟩,some ⟨1,[.int .i64 1],true,false⟩]) (vs:=[q.lo.v,halfN.v]) rfl rfl (by rw[qil rfl];simp[frzVs,frzV];exact⟨rfl,rfl,rfl⟩) bad ?_;simp;refine zq bfl ?_;simp;refine zq bp ?_;simp;refine zq bwh ?_;simp;refine zq bpn ?_;simp;refine zq bh ?_;simp;refine zq bpr ?_;simp;refine zq bop ?_;simp;refine zq bsu ?_;have⟨x,hx⟩:∃x,x=n+(turns:Int):=⟨_,rfl⟩
 obtain⟨m1,m2,m3⟩:=tm4 x;rw[<-hx]at g1 hkd;have g2:IntKind.i64.wrap (x.tmod 4+4)=x.tmod 4+4:=by rw[wrap_i64]<;>omega
 have g3:(x.tmod 4+4).tmod 4=(k:Int):=by rw[m3];omega
 subst hx;have j0:IntKind.i64.wrap 1=1:=rfl;have j1:IntKind.i64.wrap 0=0:=rfl;obtain rfl|rfl|rfl|rfl:k=0\/k=1\/k=2\/k=3:=by omega
 ·simp at g3 bse;simp[hl,g1,g2,g3,j0];refine zq bse ?_;simp[hl,apart]
 ·simp at g3 bse;simp[hl,g1,g2,g3,j1];refine zq bse ?_;simp[hl,apart]
 ·simp at g3 bse;simp[hl,g1,g2,g3,j0];refine zq bse ?_;simp[hl];refine zq bos ?_;simp[hl,apart]
 ·simp at g3 bse;simp[hl,g1,g2,g3,j1];refine zq bse ?_;simp[hl];refine zq bos ?_;simp[hl,apart]
end Go.Abs.W
