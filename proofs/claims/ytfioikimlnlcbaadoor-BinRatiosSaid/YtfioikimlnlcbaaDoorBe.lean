/- Parts of the proof: FpBr2, FpBr3, FpBr4, FpBr5. -/
import Derived.Test.YtfioikimlnlcbaaDoorBa
import Derived.Test.YtfioikimlnlcbaaDoorFe
import Derived.Test.YtfioikimlnlcbaaDoorFe
import Derived.Test.YtfioikimlnlcbaaDoorFf
namespace Go.Abs.W
set_option maxHeartbeats 4000000
set_option maxRecDepth 20000
theorem qvv {x c B i P Q:Nat}(_hB:B=4294967296^i)(_hx:x<4294967296)(_hc:c<=1)(h:P+B*c=2*Q) :
 P+B*(2*x%4294967296+c)+B*4294967296*(x/2147483648)=2*(Q+B*x):=by
 have e:2*x=2*x%4294967296+4294967296*(x/2147483648):=by omega
 have:B*(2*x)=B*(2*x%4294967296)+B*4294967296*(x/2147483648):=by
  rw[Nat.mul_assoc,<-Nat.mul_add,<-e]
 have e3:B*(2*x)=2*(B*x):=Nat.mul_left_comm ..;rw[Nat.mul_add,Nat.mul_add];omega
theorem qjp (M:Nat)(hm:(qad M).length<=100000):CQ prog qc3 [lim (qad M),.int .u64 0] (lim (qad (2*M))):=by
 have lm:=qal M;have tm:=qei M;have vm:=qah M;generalize qad M=m at *
 refine qai rfl fun H=>?_
 have c0:IntKind.u32.wrap 0=0:=rfl;have done:∀(o:List Nat) (c:Nat),o.length=m.length->Li o->c<=1->natV o+4294967296^m.length*c=2*M->(c=0->o=qad (2*M))/\(c≠0->o++[c]=qad (2*M)):=by
  intro o c ho lo hc hv;constructor
  ·intro h;subst h;refine qh9 lo (by simpa using hv) ?_;rcases List.eq_nil_or_concat m with h1|⟨_,_,h1⟩
   ·left;exact List.eq_nil_of_length_eq_zero (by rw[ho,h1];rfl)
   ·right;have:=qpg tm (by rw[h1];simp);rw[vm]at this;rw[ho];omega
  ·intro h;have h1:c=1:=by omega
   subst h1;refine qh9 (lo.append (by intro y hy;simp at hy;omega)) (by rw[qbc,ho];exact hv) (.inr ?_);simp only[List.length_append,List.length_singleton,Nat.add_sub_cancel,ho];omega
 simp[lim,c0];refine WK_up (fun i E H'=>E 0=lim m/\E 7=.int .i64 i/\∃c o,c<=1/\E 6=.int .u32 (c:Nat)/\Out H H' (E 5) 1 (o.map u32)/\o.length=i/\Li o/\natV o+4294967296^i*c=2*natV (m.take i)) m.length ?_ ?_
 ·simp[lim];exact⟨0,by omega,rfl,[],.nil,rfl,by intro x hx;simp at hx,by simp[natV]⟩
 ·rintro i E H' hi ⟨h0,h7,c,o,hc,h6,h5,ho,lo,hv⟩;simp only[lim]at h0;rcases Nat.lt_or_ge i m.length with hlt|hge
  ·have f1:IntKind.i64.wrap ((i:Int)+1)=((i+1:Nat):Int):=by rw[wrap_i64]<;>omega
   have lx:m[i]<4294967296:=lm _ (List.getElem_mem hlt);have st:=qvv rfl lx hc hv;have t1:=qs4 m[i];have t2:=(qis (2*m[i]%4294967296) c 1 (by omega) (by omega) (by omega) (by omega)).1;have t3:qaw .shr .u32 (m[i]:Int) 31=some (.int .u32 ((m[i]/2^31:Nat):Int)):=shr32 m[i] 31 (by omega);rw[show(2:Nat)^31=2147483648 from rfl]at t3;have hts:natV (m.take (i+1))=natV (m.take i)+4294967296^i*m[i]:=by rw[qbz,qao hlt]
   rw[<-hts,<-Nat.pow_succ]at st;have hL:2*m[i]%4294967296+c<4294967296:=by omega
   have hC:m[i]/2147483648<=1:=by omega
   have⟨L,hL2⟩:∃L,L=2*m[i]%4294967296+c:=⟨_,rfl⟩
   have⟨D,hD⟩:∃D,D=2*m[i]%4294967296:=⟨_,rfl⟩
   have⟨C,hC2⟩:∃C,C=m[i]/2147483648:=⟨_,rfl⟩
   rw[<-hL2]at t2 st hL;rw[<-hD]at t1 t2;rw[<-hC2]at t3 st hC;obtain⟨v',H'',e',ho'⟩:=h5.one L (by omega);simp[qbn,h0,h6,h7,hlt,u32,f1,t1,t2,t3,e',lim];exact⟨C,hC,rfl,o++[L],ho',by simp[ho],lo.append (by intro y hy;simp at hy;omega),by rw[qbc,ho];exact st⟩
  ·have hin:i=m.length:=by omega
   subst hin;rw[qb7 (Nat.le_refl _),vm]at hv;obtain⟨d0,d1⟩:=done o c ho lo hc hv;by_cases hc0:c=0
   ·subst hc0;have:=d0 rfl;subst this;simp[qbn,h0,h6,h7,h5.fin]
   ·have:=d1 hc0;rw[<-this];have hc0':¬(c:Int)=0:=by omega
    obtain⟨v',H'',e',ho'⟩:=h5.one c (by omega);simp[qbn,h0,h6,h7,hc0,e',lim];have:=ho'.fin (List.prefix_refl _);simpa using this
theorem qs6 (M:Nat)(hm:(qad (2*M)).length<=100000):CQ prog qmp [lim (qad (2*M))] (lim (qad (2*M+1))):=by
 refine qai rfl fun H=>?_
 by_cases h0:M=0
 ·subst h0;have e:qad (2*0+1)=[1]:=by rw[qbu (by omega)];rfl
  rw[e];simp[qa0,lim,u32]
 ·rw[qbu (by omega)]at hm;rw[qbu (show 2*M≠0 by omega),qbu (show 2*M+1≠0 by omega)];have⟨x,hx⟩:∃x,x=2*M%4294967296:=⟨_,rfl⟩
  have e1:(2*M+1)%4294967296=x+1:=by omega
  have e2:(2*M+1)/4294967296=2*M/4294967296:=by omega
  rw[e1,e2,<-hx];rw[<-hx]at hm;generalize qad (2*M/4294967296)=l at *
  have t1:bitsI .or .u32 (x:Int) 1=some ((x+1:Nat):Int):=(qis x 1 1 (by omega) (by omega) (by omega) (by omega)).1;have e3:¬((l.length:Int)+1=0):=by omega
  have e4:(l.length+1)*4<=140737488355328:=by simp at hm;omega
  simp[lim,u32,e3,qat,qag,e4,t1];exact List.take_of_length_le (by simp)
def nextL : List Nat->List Nat
 | []=>[1]
 |x :: l=>if x+1<4294967296 then(x+1) :: l else 0 :: nextL l
theorem qnx : ∀{l:List Nat},Li l->natV (nextL l)=natV l+1
 | [],_=>rfl
 |x :: l,h=>by
  unfold nextL;have:=h.cons.1;split
  ·simp only[natV];omega
  ·simp only[natV,qnx h.cons.2];omega
theorem qqo : ∀{l:List Nat},Li l->Li (nextL l)
 | [],_=>by intro y hy;simp[nextL]at hy;omega
 |x :: l,h=>by
  unfold nextL;split
  ·intro y hy;rcases List.mem_cons.1 hy with rfl|hy
   ·assumption
   ·exact h.cons.2 y hy
  ·intro y hy;rcases List.mem_cons.1 hy with rfl|hy
   ·omega
   ·exact qqo h.cons.2 y hy
theorem qny : ∀{l:List Nat},(nextL l).length<=l.length+1
 | []=>by simp[nextL]
 |x :: l=>by
  unfold nextL;split
  ·simp
  ·have:=qny (l:=l);simp;exact this
theorem qvl (l:List Nat)(hl:l.length<=100000)(hn:l≠[])(ll:Li l):CQ prog qg3 [lim l] (lim (nextL l)):=by
 refine qai rfl fun H=>?_
 have e4:l.length*4<=140737488355328:=by omega
 have hh:=qih l;simp only[qbl]at hh;simp[lim,qat,qag,e4,hn];rw[if_pos hh];simp;refine WK_up (fun i E H'=>∃o:List Nat,H'=H++[none,some ⟨1,o.map u32,true,true⟩]/\o.length=l.length/\E 3=.ref (H.length+1) 1 0 l.length/\E 4=.int .i64 i/\o.drop i=l.drop i/\o.take i++nextL (l.drop i)=nextL l) l.length ?_ ?_
 ·exact⟨l,rfl,rfl,by simp,by simp,rfl,by simp⟩
 ·rintro i E H' hi ⟨o,rfl,ho,h3,h4,hd,ht⟩;rcases Nat.lt_or_ge i l.length with hlt|hge
  ·have f1:IntKind.i64.wrap ((i:Int)+1)=((i+1:Nat):Int):=by rw[wrap_i64]<;>omega
   have hio:i<o.length:=by omega
   have lx:l[i]<4294967296:=ll _ (List.getElem_mem hlt);have hd2:=hd;rw[List.drop_eq_getElem_cons hio,List.drop_eq_getElem_cons hlt]at hd2;injection hd2 with hx hd3
   rw[List.drop_eq_getElem_cons hlt]at ht;by_cases hb:l[i]+1<4294967296
   ·have t1:IntKind.u32.wrap ((l[i]:Int)+1)=((l[i]+1:Nat):Int):=by rw[qqf]<;>omega
    rw[nextL,if_pos hb]at ht;have e5:o.set i (l[i]+1)=nextL l:=by
     rw[<-ht,List.set_eq_take_append_cons_drop,if_pos hio,hd3]
    have⟨z,hz⟩:∃z,z=l[i]+1:=⟨_,rfl⟩
    rw[<-hz]at t1 e5;have hz0:¬z=0:=by omega
    rw[<-hx]at t1;simp[qcb,h3,h4,hlt,ho,u32,t1,hz0];rw[<-e5];simp[u32];refine List.take_of_length_le ?_;simp[ho]
   ·have hx1:l[i]=4294967295:=by omega
    have t1:IntKind.u32.wrap ((l[i]:Int)+1)=0:=by rw[hx1];rfl
    rw[nextL,if_neg hb]at ht;rw[<-hx]at t1;simp[qcb,h3,h4,hlt,ho,u32,t1,f1];refine⟨o.set i 0,by simp[u32],by simp[ho],?_,?_⟩
    ·rw[List.drop_set_of_lt (by omega)];exact hd3
    ·rw[<-ht,List.take_set,List.set_eq_take_append_cons_drop,if_pos (by simp;omega),List.take_take,Nat.min_eq_left (by omega)];simp
  ·have hin:i=l.length:=by omega
   subst hin;simp[nextL]at ht;rw[List.take_of_length_le (by omega)]at ht;have e5:(l.length+1)*4<=140737488355328:=by omega
   simp[qcb,h3,h4,ho,qat,qag,e5];rw[<-ht];simp[u32];rw[List.take_of_length_le (l:=List.map u32 o) (by simp;omega)];exact List.take_of_length_le (by simp;omega)
end Go.Abs.W
namespace Go.Abs.W
set_option maxRecDepth 20000
theorem qq6 {N i k x β:Nat}(hx:x=N/2^i%2^k)(hβ:β=N/2^(i+k)%2):x+β*2^k=N/2^i%2^(k+1)/\x<2^k/\β<=1:=by
 have hp:=Nat.two_pow_pos k;refine⟨?_,by rw[hx];exact Nat.mod_lt _ hp,by omega⟩;rw[Nat.mod_pow_succ,<-hx,Nat.div_div_eq_div_mul,<-Nat.pow_add,<-hβ,Nat.mul_comm]
theorem qti {x β k:Nat}(hx:x<2^k)(hβ:β<=1)(hk:k<32) :
 IntKind.u32.wrap (β:Int)=β/\qaw .shl .u32 (β:Int) (k:Int)=some (.int .u32 ((β*2^k:Nat):Int))/\bitsI .or .u32 (x:Int) ((β*2^k:Nat):Int)=some ((x+β*2^k:Nat):Int):=by
 have hp:2^k<=2^31:=Nat.pow_le_pow_right (by omega) (by omega);have h1:β*2^k<=1*2^k:=Nat.mul_le_mul_right _ hβ;refine⟨qas _ (by omega),?_,?_⟩
 ·have e1:¬((k:Int)<0):=by omega
  have e2:Nat.min k 32=k:=Nat.min_eq_left (by omega);have e3:(β:Int)*2^k=((β*2^k:Nat):Int):=by simp
  simp only[qaw,if_neg e1,qm8,Int.toNat_natCast,e2,e3];rw[qas _ (by omega)]
 ·have:=(qis (β*2^k) x k (Nat.mul_mod_left _ _) hx (by omega) (by omega)).2;rw[this,Nat.add_comm]
set_option maxHeartbeats 4000000 in
theorem qqq (neg:Bool)(l:List Nat)(e:Int)(hl:l.length<=1000)(ll:Li l)(he1:-100000<=e)(he2:e<=100000):CQ prog qg4 [.bool neg,lim l,.int .i64 e] (Dy.of neg (natV l) e).v:=by
 refine qai rfl fun H=>?_
 have hl':∀k,¬(H.length+k<H.length):=by intro k;omega
 have⟨N,hN⟩:∃N,N=natV l:=⟨_,rfl⟩
 have hb:∀i:Nat,CQ prog qds [lim l,.int .i64 i] (.int .i64 ((N/2^i%2:Nat):Int)):=fun i=>by rw[hN];exact qp1 l i (by omega) ll
 have hbs:=qm9 l (by omega) ll;rw[<-hN]at hbs ⊢;have hNlt:N<2^(32*l.length):=by rw[<-pow32,hN];exact qbp ll
 have hbl:bitL N<=32000:=Nat.le_trans (qa6 hNlt) (by omega);simp;refine zq hbs ?_;by_cases h0:N=0
 ·subst h0;simp[qdi,Dy.of,lim]
 have hbn:¬bitL N=0:=by have:=(qa8 h0).2.2;omega
 have⟨t,ht⟩:∃t,t=tz N:=⟨_,rfl⟩
 obtain⟨bt,blo,_⟩:=qqg h0;rw[<-ht]at bt blo;have tle:2^t<=N:=by rw[ht];exact tz_le h0
 have tlt:t<bitL N:=(Nat.pow_lt_pow_iff_right (by omega:1<2)).1 (Nat.lt_of_le_of_lt tle (qhb N));have hof:Dy.of neg N e=⟨neg,qad (N/2^t),e+t⟩:=by unfold Dy.of;rw[if_neg h0,<-ht]
 rw[hof];simp[hbn];refine qbk (fun k E H'=>k<=t/\H'=H++[some ⟨3,[.agg [.bool false,.nil,.int .i64 0]],false,true⟩]/\E 0=.bool neg/\E 1=lim l/\E 2=.int .i64 e/\E 6=.ptr H.length 0 0/\E 7=.int .i64 (bitL N:Nat)/\E 8=.int .i64 ((t-k:Nat):Int)) t ?_ ?_
 ·refine⟨Nat.le_refl _,rfl,by simp,by simp,by simp,by simp,by simp,by simp⟩
 ·rintro k E H' ⟨hk,rfl,e0,e1,e2,e6,e7,e8⟩;refine qax ?_;have⟨z,hz⟩:∃z,z=t-k:=⟨_,rfl⟩
  rw[<-hz]at e8;simp[qfg,e1,e8];refine qac rfl rfl rfl (hb z) ?_;by_cases hk0:k=0
  ·subst hk0;have hzt:z=t:=by omega
   subst hzt;rw[bt];have⟨M,hM⟩:∃M,M=N/2^z:=⟨_,rfl⟩
   rw[<-hM];have M0:M≠0:=by rw[hM];intro h;rw[h]at bt;simp at bt
   have w4:IntKind.i64.wrap (e+z)=e+z:=by rw[wrap_i64]<;>omega
   have hMb:bitL M+z=bitL N:=by
    have:=qit tle;rw[hM];omega
   simp[e0,e2,e8,w4,hl'];have⟨b,hb9⟩:∃b,b=H.length+1:=⟨_,rfl⟩
   have⟨J,hJ⟩:∃J,J=(bitL M+31)/32:=⟨_,rfl⟩
   refine WK_up (fun j E H'=>E 1=lim l/\E 6=.ptr H.length 0 0/\E 7=.int .i64 (bitL N:Nat)/\E 9=.ptr b 0 0/\E 10=.int .i64 ((z+32*j:Nat):Int)/\H'[H.length]?=some (some ⟨3,[.agg [.bool false,.nil,.int .i64 0]],false,true⟩) /\
    ∃v,Fld H H' (H.length+2) b (.bool neg) (.int .i64 (e+z)) ((digs j M).map u32) v) J ?_ ?_
   ·exact⟨by simp[e1],by simp[e6],by simp[e7],by simp[hb9],by simp,by simp,.nil,⟨List.prefix_append _ _,by omega,by omega,by simp,by simp[hb9],.inl ⟨rfl,rfl⟩⟩⟩
   ·rintro j E H' hj ⟨e1,e6,e7,e9,e10,hg6,v,hf⟩;have hpl:=hf.pre.length_le;have nb:¬b<H.length:=by omega
    have⟨i,hi⟩:∃i,i=z+32*j:=⟨_,rfl⟩
    rw[<-hi]at e10;rcases Nat.lt_or_ge j J with hlt|hge
    ·have c1:i<bitL N:=by omega
     have w5:IntKind.i64.wrap ((i:Int)+32)=((z+32*(j+1):Nat):Int):=by rw[wrap_i64]<;>omega
     simp[qc5,e7,e10,c1];refine WK_up (fun k E H''=>H''=H'/\E 1=lim l/\E 6=.ptr H.length 0 0/\E 7=.int .i64 (bitL N:Nat)/\E 9=.ptr b 0 0/\E 10=.int .i64 i/\E 12=.int .i64 k/\E 11=.int .u32 ((N/2^i%2^k:Nat):Int)) 32 ?_ ?_
     ·refine⟨rfl,by simp[e1],by simp[e6],by simp[e7],by simp[e9],by simp[e10],by simp,by simp[Nat.mod_one]⟩
     ·rintro k E H'' hk ⟨rfl,e1,e6,e7,e9,e10,e12,e11⟩;rcases Nat.lt_or_ge k 32 with hlt2|hge2
      ·have hlt2':(k:Int)<32:=by omega
       have w6:IntKind.i64.wrap ((i:Int)+k)=((i+k:Nat):Int):=by rw[wrap_i64]<;>omega
       have w7:IntKind.i64.wrap ((k:Int)+1)=((k+1:Nat):Int):=by rw[wrap_i64]<;>omega
       obtain⟨g1,g2,g3⟩:=qq6 (N:=N) (i:=i) (k:=k) rfl rfl;have hbi:=hb (i+k);have⟨β,hβ⟩:∃β,β=N/2^(i+k)%2:=⟨_,rfl⟩
       have⟨x,hx⟩:∃x,x=N/2^i%2^k:=⟨_,rfl⟩
       rw[<-hβ]at g1 g3 hbi;rw[<-hx]at g1 g2 e11;obtain⟨o1,o2,o3⟩:=qti g2 g3 hlt2;have⟨y,hy⟩:∃y,y=β*2^k:=⟨_,rfl⟩
       rw[<-hy]at o2 o3 g1;simp[qc6,e1,e10,e11,e12,hlt2',w6];refine zq hbi ?_;simp[e1,e6,e7,e9,e10,e12,hlt2,o1,o2,o3,w7]
       exact_mod_cast g1
      ·have:k=32:=by omega
       subst this;have hd:N/2^i%2^32=M/4294967296^j%4294967296:=by
        rw[hM,Nat.div_div_eq_div_mul,pow32,<-Nat.pow_add,<-hi]
       rw[hd]at e11;obtain⟨v',H2,e',g',v1,v2,v3,hf'⟩:=hf.app (x:=u32 (M/4294967296^j%4294967296)) (bytes:=4) rfl (by simp[qgw];omega);rw[show(digs j M).map u32++[u32 (M/4294967296^j%4294967296)]=(digs (j+1) M).map u32 by rw[qko];simp]at hf';have⟨d,hd2⟩:∃d,d=M/4294967296^j%4294967296:=⟨_,rfl⟩
       rw[<-hd2]at e' e11;have g2:H2[H.length]?=some (some ⟨3,[.agg [.bool false,.nil,.int .i64 0]],false,true⟩):=by rw[v3 _ (by omega)];exact hg6
       unfold u32 at e';have hbk:=hf.at_;simp[qc6,e1,e6,e7,e9,e10,e11,e12,hbk,nb,e',g',v1,v2,w5];refine⟨hlt,?_,v',hf'⟩;rw[List.getElem?_set_ne (by omega)];exact g2
    ·have hjJ:j=J:=by omega
     have c1:¬i<bitL N:=by omega
     have hbk:=hf.at_;have hMlt:M<4294967296^j:=by
      rw[pow32];exact Nat.lt_of_lt_of_le (qhb M) (Nat.pow_le_pow_right (by omega) (by omega))
     have hdig:digs j M=qad M:=by
      have hb0:=(qa8 M0)
      refine qh9 qpv (by rw[qm4,Nat.mod_eq_of_lt hMlt]) (.inr ?_);rw[qgw,pow32];exact Nat.le_trans (Nat.pow_le_pow_right (by omega) (by omega)) hb0.1
     rw[hdig]at hf;have lb:=(List.getElem?_eq_some_iff.1 hg6).1;have gs:∀X,(H'.set H.length X)[H.length]?=some X:=fun X=>List.getElem?_set_self lb
     obtain⟨H3,z1,z2⟩:=hf.frz (b6:=H.length) (X:=some ⟨3,[.agg [.bool neg,v,.int .i64 (e+z)]],false,true⟩) (by omega) (by omega);have tk:=qbm z2;simp[qc5,e6,e7,e9,e10,c1,hbk,hg6,gs,z1,tk];rfl
  ·have hbz:N/2^z%2=0:=blo z (by omega);rw[hbz];have w2:IntKind.i64.wrap ((z:Int)+1)=((t-(k-1):Nat):Int):=by rw[wrap_i64]<;>omega
   simp[e0,e1,e2,e6,e7,e8,w2];exact⟨k-1,by omega,by omega,rfl⟩
end Go.Abs.W
namespace Go.Abs.W
set_option maxRecDepth 20000
theorem qns {g:Nat}{H:Heap}{b:Nat}{l:List Nat}{k:IntKind}{n:Int}(hg:(prog.fn g).elim true (fun f=>!f.raw)=true)(hb:H[b]?=some (some ⟨1,l.map u32,true,true⟩)) :
 prep prog g H [.ref b 1 0 l.length,.int k n]=some ([lim l,.int k n],H.set b (some ⟨1,l.map u32,true,false⟩)):=by
 have:prep prog g H [.ref b 1 0 l.length,.int k n]=frzVs H [.ref b 1 0 l.length,.int k n]:=by
  unfold prep;cases hq:prog.fn g with
  |none=>rfl
  |some f=>rw[hq]at hg;simp at hg;simp[hg]
 rw[this];have h2:List.take l.length (l.map u32)=l.map u32:=List.take_of_length_le (by simp);simp[frzVs,frzV,hb,h2,lim]
theorem qxj {n d k:Nat}(hd:0<d) :
 (2*(n/2^(k+1)%d)+n/2^k%2)%d=n/2^k%d/\2*(n/2^(k+1)/d)+(2*(n/2^(k+1)%d)+n/2^k%2)/d=n/2^k/d/\(2*(n/2^(k+1)%d)+n/2^k%2)/d<=1:=by
 have e:n/2^k=2*(n/2^(k+1))+n/2^k%2:=by
  have:n/2^(k+1)=n/2^k/2:=by rw[Nat.pow_succ,Nat.div_div_eq_div_mul]
  rw[this];omega
 have⟨N,hN⟩:∃N,N=n/2^(k+1):=⟨_,rfl⟩
 have⟨b,hb⟩:∃b,b=n/2^k%2:=⟨_,rfl⟩
 rw[<-hN,<-hb]at e ⊢;rw[e];have hm:=Nat.mod_lt N hd;have e2:=Nat.div_add_mod N d;have e3:2*N+b=d*(2*(N/d))+(2*(N%d)+b):=by rw[Nat.mul_left_comm];omega
 refine⟨by rw[e3,Nat.mul_add_mod],by rw[e3,Nat.mul_add_div hd],?_⟩;have:(2*(N%d)+b)/d<2:=by rw[Nat.div_lt_iff_lt_mul hd];omega
 omega
set_option maxHeartbeats 4000000 in
theorem qxg {n0:Nat}{Q:AX->Env->Heap->Prop}{Kf:List Fr}{E:Env}{H0:Heap}(n d b:Nat)(hn:n<=1073741824)(hd:0<d)(hd2:d<=1073741824)(hb:H0[b]?=some (some ⟨1,[],true,true⟩))
 (h0:E 0=.int .u64 n) (h1:E 1=.int .u64 d) (h8:E 8=.ref b 1 0 0) (h9:E 9=.int .u64 0) (h11:E 11=.int .i64 63)
 (hQ:∀E1 H1,H0 <+: H1->E1 0=E 0->E1 1=E 1->E1 2=E 2->E1 6=E 6->E1 7=E 7->E1 10=E 10->E1 8=lim (qad (n/d))->E1 9=.int .u64 ((n%d:Nat):Int)->WP prog n0 Q Kf (.exit 0) E1 H1) :
 WK prog n0 (.loop qcf) Kf E H0 Q:=by
 have lsz:∀k,(qad (n/2^k/d)).length<=100:=by
  intro k;refine Nat.le_trans (qdw (B:=31) (k:=1) ?_ (by omega)) (by omega);exact Nat.lt_of_le_of_lt (Nat.le_trans (Nat.div_le_self _ _) (Nat.div_le_self _ _)) (by omega)
 refine qbk (fun k E' H'=>k<=64/\H0 <+: H'/\E' 0=E 0/\E' 1=E 1/\E' 2=E 2/\E' 6=E 6/\E' 7=E 7/\E' 10=E 10/\E' 11=.int .i64 ((k:Int)-1)/\E' 9=.int .u64 ((n/2^k%d:Nat):Int) /\
  (E' 8=lim (qad (n/2^k/d))\/(k=64/\E' 8=.ref b 1 0 0))) 64 ?_ ?_
 ·have hz:n/2^64=0:=Nat.div_eq_of_lt (by omega);refine⟨Nat.le_refl _,List.prefix_refl _,rfl,rfl,rfl,rfl,rfl,rfl,h11,?_,.inr ⟨rfl,h8⟩⟩;rw[hz,Nat.zero_mod];exact h9
 ·rintro k E' H' ⟨hk,hp,g0,g1,g2,g6,g7,g10,g11,g9,g8⟩;rw[h0]at g0;rw[h1]at g1;refine qax ?_;rcases k with _|k
  ·have n1:¬((0:Int)<=-1):=by omega
   rw[Nat.pow_zero,Nat.div_one]at g9 g8;have g8':E' 8=lim (qad (n/d)):=by
    rcases g8 with h|⟨h,_⟩
    ·exact h
    ·omega
   simp[qcf,g11];exact hQ _ _ hp (by simp[g0,h0]) (by simp[g1,h1]) (by simp[g2]) (by simp[g6]) (by simp[g7]) (by simp[g10]) (by simp[g8']) (by simp[g9])
  ·have e2:(k+1:Int)-1=k:=by omega
   simp only[Int.natCast_add,Int.natCast_one,e2]at g11;have p1:(0:Int)<=k:=by omega
   have hk63:k<=63:=by omega
   obtain⟨d1,d2,d3⟩:=qxj (n:=n) (k:=k) hd;have t1:=shr64 n k (by omega);have hb1:n/2^k<2^64:=Nat.lt_of_le_of_lt (Nat.div_le_self _ _) (by omega);have t2:=qk3 (n/2^k) 1 hb1 (by decide);have t2':n/2^k &&& 1=n/2^k%2:=by rw[show(1:Nat)=2^1-1 from rfl,Nat.and_two_pow_sub_one_eq_mod]
   rw[t2',show((1:Nat):Int)=1 from rfl]at t2;have hr:=Nat.mod_lt (n/2^(k+1)) hd;have hM:=lsz (k+1);have hM2:=lsz k;have⟨r,hr2⟩:∃r,r=n/2^(k+1)%d:=⟨_,rfl⟩
   have⟨M,hM3⟩:∃M,M=n/2^(k+1)/d:=⟨_,rfl⟩
   have⟨β,hβ⟩:∃β,β=n/2^k%2:=⟨_,rfl⟩
   have hβ1:β<=1:=by omega
   simp only[<-hr2,<-hM3,<-hβ]at d1 d2 d3;rw[<-hβ]at t2;have⟨y,hy⟩:∃y,y=n/2^k:=⟨_,rfl⟩
   rw[<-hy]at t1 t2;rw[<-hr2]at g9 hr;rw[<-hM3]at g8 hM;have w1:IntKind.u64.wrap (2*(r:Int))=((2*r:Nat):Int):=by rw[qa1]<;>omega
   have w2:IntKind.u64.wrap (((2*r:Nat):Int)+β)=((2*r+β:Nat):Int):=by rw[qa1]<;>omega
   have⟨s,hs⟩:∃s,s=2*r+β:=⟨_,rfl⟩
   have⟨r2,hr3⟩:∃r2,r2=2*r:=⟨_,rfl⟩
   rw[<-hs]at d1 d2 d3 w2;rw[<-hr3]at w1 w2;have t3:=tdivN s d;have t4:=tmodN s d;have⟨q,hq⟩:∃q,q=s/d:=⟨_,rfl⟩
   have⟨r4,hr4⟩:∃r4,r4=s%d:=⟨_,rfl⟩
   rw[<-hq]at t3 d2 d3;rw[<-hr4]at t4 d1;have w3:IntKind.u64.wrap (q:Int)=q:=by rw[qa1]<;>omega
   have w4:IntKind.i64.wrap ((k:Int)-1)=(k:Int)-1:=by rw[wrap_i64]<;>omega
   have d0:¬d=0:=by omega
   have sh:=qjp M (by omega);have st:=qs6 M (by rw[show 2*M=n/2^k/d-q by omega];refine Nat.le_trans (qdw (B:=31) (k:=1) ?_ (by omega)) (by omega);exact Nat.lt_of_le_of_lt (Nat.le_trans (Nat.sub_le _ _) (Nat.le_trans (Nat.div_le_self _ _) (Nat.div_le_self _ _))) (by omega));have hpl:=hp.length_le;have app:∃v H2,H0 <+: H2/\qat 1 4 (.ref H'.length 1 0 0) (E' 8) (H'++[some ⟨1,[],true,true⟩])=some (v,H2)/\∃H3,H0 <+: H3/\prep prog qc3 H2 [v,.int .u64 0]=some ([lim (qad M),.int .u64 0],H3):=by
    have hel:elems (H'++[some ⟨1,[],true,true⟩]) (E' 8)=some ((qad M).map u32):=by
     rcases g8 with h|⟨hk2,h⟩
     ·rw[h];rfl
     ·have hz:n/2^(k+1)=0:=by rw[hk2];exact Nat.div_eq_of_lt (by omega)
      have:M=0:=by rw[hM3,hz];simp
      rw[h,this];have hb2:=getP2 (qck hp:H0 <+: H'++[some ⟨1,[],true,true⟩]) hb;simp[hb2,qa0]
    have hh:=qih (qad M);unfold qat;rw[hel];simp only[Option.bind_some,hh,if_true,List.getElem?_append_right (Nat.le_refl H'.length),Nat.sub_self,List.getElem?_cons_zero];by_cases hL:qad M=[]
    ·have e1:qag (0+((qad M).map u32).length) 4=true:=by simp[qag,hL]
     rw[hL];simp only[List.map_nil,if_true];refine⟨_,_,?_,rfl,_,?_,qns (l:=[]) rfl (by simp)⟩
     ·exact qck hp
     ·exact qar (qck hp) hpl
    ·have e1:qag (0+((qad M).map u32).length) 4=true:=by simp[qag];omega
     have e2:¬(qad M).map u32=[]:=by simpa using hL
     simp only[e1,e2,if_false,Nat.zero_le,and_self,if_true,List.take_zero,List.drop_zero,List.nil_append,List.length_nil,Nat.add_zero];refine⟨_,_,?_,rfl,_,?_,by
      have:=qns (g:=qc3) (H:=((H'++[some ⟨1,[],true,true⟩]:Heap).set H'.length none:Heap)++[some ⟨1,(qad M).map u32,true,true⟩]) (b:=H'.length+1) (l:=qad M) (k:=.u64) (n:=0) rfl (by simp);simpa using this⟩
     ·exact qck (qar (qck hp) hpl)
     ·exact qck hp
   obtain⟨v,H2,hp2,ap,H3,hp3,pr⟩:=app;simp[qcf,g0,g1,g9,g11,p1,t1,t2,w1,w2,t3,t4,w3,d0,ap];refine qci rfl rfl pr ⟨_,_,sh H3,fun h=>by simp at h,?_⟩;by_cases hq1:q=1
   ·have hq1':(q:Int)=1:=by omega
    simp[hq1'];refine zq st ?_;simp[g11,w4];exact⟨k,by omega,by omega,hp3,g0.trans h0.symm,g1.trans h1.symm,g2,g6,g7,g10,rfl,by exact_mod_cast d1,.inl (by rw[<-d2,hq1])⟩
   ·have hq1':¬(q:Int)=1:=by omega
    simp[hq1',g11,w4];have:q=0:=by omega
    exact⟨k,by omega,by omega,hp3,g0.trans h0.symm,g1.trans h1.symm,g2,g6,g7,g10,rfl,by exact_mod_cast d1,.inl (by rw[<-d2,this];rfl)⟩
end Go.Abs.W
namespace Go.Abs.W
set_option maxHeartbeats 4000000
set_option maxRecDepth 20000
def efI (n d p:Nat):Nat->Nat->Nat
 |0,i=>i
 |f+1,i=>if p<=bitL (n*2^i/d)then i else efI n d p f (i+1)
def endI (n d p:Nat):Nat:=efI n d p (p+32) 0
theorem qk2 {n d p i:Nat}(hn:0<n)(hd:0<d)(hd2:d<=1073741824)(hi:p+31<=i):p<=bitL (n*2^i/d):=by
 have h1:2^p<=n*2^i/d:=by
  rw[Nat.le_div_iff_mul_le hd];have e:2^i=2^p*2^(i-p):=by rw[<-Nat.pow_add];congr 1;omega
  have h2:2^31<=2^(i-p):=Nat.pow_le_pow_right (by omega) (by omega);rw[e];have h3:2^p*d<=2^p*2^(i-p):=Nat.mul_le_mul_left _ (by omega);have h4:1*(2^p*2^(i-p))<=n*(2^p*2^(i-p)):=Nat.mul_le_mul_right _ hn;omega
 have h2:=qk4 h1;have h3:bitL (2^p)=p+1:=qiu (by have:=Nat.two_pow_pos p;omega) (Nat.le_refl _) (Nat.pow_lt_pow_right (by omega) (by omega));omega
theorem qt4 {n d i:Nat}(hd:0<d) :
 (d<=2*(n*2^i%d)->n*2^(i+1)%d=2*(n*2^i%d)-d/\n*2^(i+1)/d=2*(n*2^i/d)+1) /\
 (2*(n*2^i%d)<d->n*2^(i+1)%d=2*(n*2^i%d)/\n*2^(i+1)/d=2*(n*2^i/d)):=by
 have⟨N,hN⟩:∃N,N=n*2^i:=⟨_,rfl⟩
 have e:n*2^(i+1)=2*N+0:=by rw[hN,Nat.pow_succ,<-Nat.mul_assoc];omega
 rw[e,<-hN];have:=qxi (M:=2*N+0) (N:=N) (B:=d) (b:=0) hd rfl (by omega);exact⟨this.2,this.1⟩
theorem qxf {n0:Nat}{Q:AX->Env->Heap->Prop}{Kf:List Fr}{E:Env}{H:Heap}(n d p:Nat)(hn0:0<n)(hn:n<=1073741824)(hd:0<d)(hd2:d<=1073741824)(hp:p<=512)
 (h1:E 1=.int .u64 d) (h2:E 2=.int .i64 p) (h8:E 8=lim (qad (n/d))) (h9:E 9=.int .u64 ((n%d:Nat):Int)) (h10:E 10=.int .i64 0)
 (hQ:∀E1,p<=bitL (n*2^endI n d p/d)->endI n d p<=p+32->E1 2=E 2->E1 6=E 6->E1 7=E 7->E1 8=lim (qad (n*2^endI n d p/d))->E1 9=.int .u64 ((n*2^endI n d p%d:Nat):Int)->E1 10=.int .i64 (-(endI n d p:Int))->WP prog n0 Q Kf (.exit 2) E1 H) :
 WK prog n0 (.loop qc8) Kf E H Q:=by
 have⟨F,hF⟩:∃F,F=p+32:=⟨_,rfl⟩
 refine qbk (fun k E' H'=>H'=H/\k<=F/\efI n d p k (F-k)=endI n d p/\E' 1=E 1/\E' 2=E 2/\E' 6=E 6/\E' 7=E 7/\E' 8=lim (qad (n*2^(F-k)/d))/\E' 9=.int .u64 ((n*2^(F-k)%d:Nat):Int)/\E' 10=.int .i64 (-((F-k:Nat):Int))) F ?_ ?_
 ·refine⟨rfl,Nat.le_refl _,by rw[Nat.sub_self,endI,<-hF],rfl,rfl,rfl,rfl,?_,?_,?_⟩
  ·rw[Nat.sub_self,Nat.pow_zero,Nat.mul_one];exact h8
  ·rw[Nat.sub_self,Nat.pow_zero,Nat.mul_one];exact h9
  ·rw[Nat.sub_self];exact h10
 ·rintro k E' H' ⟨rfl,hk,hI,g1,g2,g6,g7,g8,g9,g10⟩;have⟨i,hi⟩:∃i,i=F-k:=⟨_,rfl⟩
  rw[<-hi]at hI g8 g9 g10;rw[h1]at g1;rw[h2]at g2;have lsz:(qad (n*2^i/d)).length<=1000:=by
   have⟨B,hB⟩:∃B,B=600:=⟨_,rfl⟩
   refine Nat.le_trans (qdw (B:=B) (k:=20) ?_ (by omega)) (by omega);refine Nat.lt_of_le_of_lt (Nat.div_le_self _ _) ?_;have h3:n*2^i<2^31*2^i:=Nat.mul_lt_mul_of_pos_right (by omega) (Nat.two_pow_pos i);rw[<-Nat.pow_add]at h3;exact Nat.lt_of_lt_of_le h3 (Nat.pow_le_pow_right (by omega) (by omega))
  have bt:=qm9 (qad (n*2^i/d)) (by omega) (qal _);rw[qah]at bt;refine qax ?_;simp[qc8,g8];refine zq bt ?_;by_cases hc:bitL (n*2^i/d)<p
  ·have hki:i<p+31:=by
    rcases Nat.lt_or_ge i (p+31)with h|h
    ·exact h
    ·have:=qk2 (p:=p) hn0 hd hd2 h;omega
   have⟨k2,hk2⟩:∃k2,k=k2+1:=⟨k-1,by omega⟩
   subst hk2;rw[efI,if_neg (by omega)]at hI;have hi2:F-k2=i+1:=by omega
   obtain⟨dA,dB⟩:=qt4 (n:=n) (i:=i) hd;have hr:=Nat.mod_lt (n*2^i) hd;have hsz2:(qad (2*(n*2^i/d))).length<=100000:=by
    have⟨L,hL⟩:∃L,L=1000:=⟨_,rfl⟩
    rw[<-hL]at lsz;have h5:=limbsOf_len.1 lsz;refine Nat.le_trans (limbsOf_len (k:=L+1).2 ?_) (by omega);rw[Nat.pow_succ];omega
   have⟨M,hM⟩:∃M,M=n*2^i/d:=⟨_,rfl⟩
   have⟨r,hr2⟩:∃r,r=n*2^i%d:=⟨_,rfl⟩
   simp only[<-hM,<-hr2]at *
   have sh:=qjp M (by omega);have st:=qs6 M hsz2;have w1:IntKind.u64.wrap (2*(r:Int))=((2*r:Nat):Int):=by rw[qa1]<;>omega
   have w2:IntKind.i64.wrap (-(i:Int)-1)=-(((i+1:Nat)):Int):=by rw[wrap_i64]<;>omega
   have⟨r2,hr3⟩:∃r2,r2=2*r:=⟨_,rfl⟩
   rw[<-hr3]at w1 dA dB;have hc':(bitL M:Int)<p:=by omega
   simp[g2,g8,g9,hc,w1];refine zq sh ?_;by_cases hge:d<=r2
   ·obtain⟨d1,d2⟩:=dA hge;have w3:IntKind.u64.wrap ((r2:Int)-d)=((r2-d:Nat):Int):=by rw[qa1]<;>omega
    simp[g1,hge,w3];refine zq st ?_;simp[g1,g2,g10,w2];exact⟨k2,by omega,by omega,by rw[hi2];exact hI,h1.symm,h2.symm,g6,g7,by rw[hi2,d2],by rw[hi2];exact_mod_cast d1.symm,by omega⟩
   ·obtain⟨d1,d2⟩:=dB (by omega);simp[g1,g2,g10,hge,w2];exact⟨k2,by omega,by omega,by rw[hi2];exact hI,h1.symm,h2.symm,g6,g7,by rw[hi2,d2],by rw[hi2];exact_mod_cast d1.symm,by omega⟩
  ·have hII:endI n d p=i:=by
    rcases k with _|k2
    ·rw[efI]at hI;exact hI.symm
    ·rw[efI,if_pos (by omega)]at hI;exact hI.symm
   have hc':¬(bitL (n*2^i/d):Int)<p:=by omega
   rw[hII]at hQ;simp[g2,hc];exact hQ _ (by omega) (by omega) (by simp[g2,h2]) (by simp[g6]) (by simp[g7]) (by simp[g8]) (by simp[g9]) (by simp[g10])
theorem qxe {n0:Nat}{Q:AX->Env->Heap->Prop}{Kf:List Fr}{E:Env}{H:Heap}(M low p J:Nat)(hM:(qad M).length<=1000)(hlow:low<=32000)(hp:p<=512)(hT:M/2^low<2^p)(hJ:J=(p+31)/32)
 (h2:E 2=.int .i64 p) (h8:E 8=lim (qad M)) (h13:E 13=.int .i64 low) (h15:E 15=.nil) (h16:E 16=.int .i64 0)
 (hQ:∀E1 H1,Out H H1 (E1 15) 1 ((digs J (M/2^low)).map u32)->E1 6=E 6->E1 7=E 7->E1 8=E 8->E1 10=E 10->E1 13=E 13->E1 14=E 14->WP prog n0 Q Kf (.exit 4) E1 H1) :
 WK prog n0 (.loop qcd) Kf E H Q:=by
 have⟨T,hT2⟩:∃T,T=M/2^low:=⟨_,rfl⟩
 rw[<-hT2]at hT hQ;have hb:∀i:Nat,CQ prog qds [lim (qad M),.int .i64 ((low+i:Nat):Int)] (.int .i64 ((T/2^i%2:Nat):Int)):=by
  intro i;have:=qp1 (qad M) (low+i) (by omega) (qal M);rw[qah,Nat.pow_add,<-Nat.div_div_eq_div_mul,<-hT2]at this;exact this
 refine WK_up (fun j E' H'=>E' 2=.int .i64 p/\E' 8=lim (qad M)/\E' 13=.int .i64 low/\E' 16=.int .i64 ((32*j:Nat):Int)/\Out H H' (E' 15) 1 ((digs j T).map u32)/\E' 6=E 6/\E' 7=E 7/\E' 10=E 10/\E' 14=E 14) J ?_ ?_
 ·exact⟨h2,h8,h13,by rw[h16];rfl,by rw[h15];exact Out.nil,rfl,rfl,rfl,rfl⟩
 ·rintro j E' H' hj ⟨g2,g8,g13,g16,g15,g6,g7,g10,g14⟩;have⟨i,hi⟩:∃i,i=32*j:=⟨_,rfl⟩
  rw[<-hi]at g16;rcases Nat.lt_or_ge j J with hlt|hge
  ·have c1:i<p:=by omega
   have w5:IntKind.i64.wrap ((i:Int)+32)=((32*(j+1):Nat):Int):=by rw[wrap_i64]<;>omega
   have⟨S,hS⟩:∃S,S=min 32 (p-i):=⟨_,rfl⟩
   simp[qcd,g2,g16,c1];refine WK_up (fun k E2 H''=>H''=H'/\E2 2=.int .i64 p/\E2 8=lim (qad M)/\E2 13=.int .i64 low/\E2 16=.int .i64 i/\E2 15=E' 15/\E2 6=E 6/\E2 7=E 7/\E2 10=E 10/\E2 14=E 14/\E2 18=.int .i64 k/\E2 17=.int .u32 ((T/2^i%2^k:Nat):Int)) S ?_ ?_
   ·refine⟨rfl,by simp[g2],by simp[g8],by simp[g13],by simp[g16],by simp,by simp[g6],by simp[g7],by simp[g10],by simp[g14],by simp,by simp[Nat.mod_one]⟩
   ·rintro k E2 H'' hk ⟨rfl,f2,f8,f13,f16,f15,f6,f7,f10,f14,f18,f17⟩;have w6:IntKind.i64.wrap ((i:Int)+k)=((i+k:Nat):Int):=by rw[wrap_i64]<;>omega
    rcases Nat.lt_or_ge k S with hlt2|hge2
    ·have k32:k<32:=by omega
     have k32':(k:Int)<32:=by omega
     have kp:i+k<p:=by omega
     have w7:IntKind.i64.wrap ((k:Int)+1)=((k+1:Nat):Int):=by rw[wrap_i64]<;>omega
     have w8:IntKind.i64.wrap ((low:Int)+i)=((low+i:Nat):Int):=by rw[wrap_i64]<;>omega
     have w9:IntKind.i64.wrap (((low+i:Nat):Int)+k)=((low+(i+k):Nat):Int):=by rw[wrap_i64]<;>omega
     obtain⟨g1,g2',g3⟩:=qq6 (N:=T) (i:=i) (k:=k) rfl rfl;have hbi:=hb (i+k);have⟨ik,hik⟩:∃ik,ik=i+k:=⟨_,rfl⟩
     have⟨li,hli⟩:∃li,li=low+i:=⟨_,rfl⟩
     have⟨lik,hlik⟩:∃lik,lik=low+(i+k):=⟨_,rfl⟩
     rw[<-hlik]at w9 hbi;rw[<-hli]at w8 w9;rw[<-hik]at w6 kp g1 g3 hbi;have⟨β,hβ⟩:∃β,β=T/2^ik%2:=⟨_,rfl⟩
     have⟨x,hx⟩:∃x,x=T/2^i%2^k:=⟨_,rfl⟩
     rw[<-hβ]at g1 g3 hbi;rw[<-hx]at g1 g2' f17;obtain⟨o1,o2,o3⟩:=qti g2' g3 k32;have⟨y,hy⟩:∃y,y=β*2^k:=⟨_,rfl⟩
     rw[<-hy]at o2 o3 g1;simp[qce,f2,f8,f13,f16,f17,f18,k32',w6,kp,w8,w9];refine zq hbi ?_;simp[f2,f8,f13,f16,f15,f6,f7,f10,f14,f18,o1,o2,o3,w7];exact⟨hlt2,by exact_mod_cast g1⟩
    ·have hkS:k=S:=by omega
     have hd:T/2^i%2^k=T/4294967296^j%4294967296:=by
      rw[pow32,<-hi];by_cases h32:k=32
      ·rw[h32]
      ·have hTi:T/2^i<2^k:=by
        rw[Nat.div_lt_iff_lt_mul (Nat.two_pow_pos i),<-Nat.pow_add,show k+i=p by omega];exact hT
       have h4:2^k<=2^32:=Nat.pow_le_pow_right (by omega) (by omega);rw[Nat.mod_eq_of_lt hTi,Nat.mod_eq_of_lt (by omega)]
     rw[hd]at f17;obtain⟨v',H2,e',ho'⟩:=g15.one (T/4294967296^j%4294967296) (by rw[qgw];omega);rw[show digs j T++[T/4294967296^j%4294967296]=digs (j+1) T by rw[qko]]at ho';have⟨d,hd2⟩:∃d,d=T/4294967296^j%4294967296:=⟨_,rfl⟩
     rw[<-hd2]at e' f17;rw[<-f15]at e';by_cases h32:k=32
     ·have k32:¬(k:Int)<32:=by omega
      simp[qce,f2,f8,f13,f16,f17,f18,k32,f6,f7,f10,f14,w5,e'];exact⟨hlt,ho'⟩
     ·have k32:(k:Int)<32:=by omega
      have kp:¬i+k<p:=by omega
      have⟨ik,hik⟩:∃ik,ik=i+k:=⟨_,rfl⟩
      rw[<-hik]at w6 kp;simp[qce,f2,f8,f13,f16,f17,f18,k32,w6,kp,f6,f7,f10,f14,w5,e'];exact⟨hlt,ho'⟩
  ·have hjJ:j=J:=by omega
   subst hjJ;have c1:¬i<p:=by omega
   simp[qcd,g2,g16,c1];exact hQ _ _ (by simpa using g15) (by simp[g6]) (by simp[g7]) (by simp[g8,h8]) (by simp[g10]) (by simp[g13,h13]) (by simp[g14])
theorem qxd {n0:Nat}{Q:AX->Env->Heap->Prop}{Kf:List Fr}{E:Env}{H:Heap}(M low:Nat)(ex:Bool)(hM:(qad M).length<=1000)(hlow:low<=32000)
 (h8:E 8=lim (qad M)) (h13:E 13=.int .i64 low) (h14:E 14=.bool ex) (h19:E 19=.int .i64 0)
 (hQ:∀E1,E1 6=E 6->E1 7=E 7->E1 10=E 10->E1 13=E 13->E1 15=E 15->E1 14=.bool (ex&&decide (M%2^low=0))->WP prog n0 Q Kf (.exit 8) E1 H) :
 WK prog n0 (.loop qbr) Kf E H Q:=by
 have hb:∀i:Nat,CQ prog qds [lim (qad M),.int .i64 i] (.int .i64 ((M/2^i%2:Nat):Int)):=by
  intro i;have:=qp1 (qad M) i (by omega) (qal M);rwa[qah]at this
 refine WK_up (fun j E' H'=>H'=H/\E' 8=lim (qad M)/\E' 13=.int .i64 low/\E' 19=.int .i64 j/\E' 6=E 6/\E' 7=E 7/\E' 10=E 10/\E' 15=E 15/\E' 14=.bool (ex&&decide (M%2^j=0))) low ?_ ?_
 ·exact⟨rfl,h8,h13,h19,rfl,rfl,rfl,rfl,by rw[h14];simp[Nat.mod_one]⟩
 ·rintro j E' H' hj ⟨rfl,g8,g13,g19,g6,g7,g10,g15,g14⟩;rcases Nat.lt_or_ge j low with hlt|hge
  ·have w1:IntKind.i64.wrap ((j:Int)+1)=((j+1:Nat):Int):=by rw[wrap_i64]<;>omega
   have hmod:=Nat.mod_pow_succ (x:=M) (b:=2) (k:=j);have hp:=Nat.two_pow_pos j;have⟨X,hX⟩:∃X,X=(ex&&decide (M%2^j=0)):=⟨_,rfl⟩
   have hbj:=hb j;have⟨β,hβ⟩:∃β,β=M/2^j%2:=⟨_,rfl⟩
   rw[<-hβ]at hbj hmod;have hnext:(ex&&decide (M%2^(j+1)=0))=(X&&decide (β=0)):=by
    rw[hX,Bool.and_assoc]
    congr 1
    rw[Bool.eq_iff_iff];simp only[Bool.and_eq_true,decide_eq_true_eq];rw[hmod];constructor
    ·intro h;have h1:M%2^j=0:=by omega
     refine⟨h1,?_⟩;rw[h1,Nat.zero_add]at h;rcases Nat.mul_eq_zero.1 h with h2|h2
     ·omega
     ·exact h2
    ·rintro⟨h1,h2⟩;rw[h1,h2];simp
   rw[<-hX]at g14;rw[hnext];cases hXv:X
   ·rw[hXv]at g14;simp[qbr,g8,g13,g14,g19,hlt,w1,g6,g7,g10,g15]
   ·rw[hXv]at g14;simp[qbr,g8,g13,g14,g19,hlt];refine zq hbj ?_;simp[g8,g13,g19,w1,g6,g7,g10,g15];try omega
  ·have hjl:j=low:=by omega
   subst hjl;simp[qbr,g13,g19];exact hQ _ (by simp[g6]) (by simp[g7]) (by simp[g10]) (by simp[g13,h13]) (by simp[g15]) (by simp[g14])
end Go.Abs.W
