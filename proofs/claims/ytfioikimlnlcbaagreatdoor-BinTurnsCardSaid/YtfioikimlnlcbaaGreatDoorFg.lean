/- Parts of the proof: FpDyR, FpR01a, FpR01b, FpR01c, FpR01d, FpR01e, FpR02, FpR02b. -/
import Derived.Test.YtfioikimlnlcbaaGreatDoorFf
namespace Go.Abs.W
set_option maxHeartbeats 4000000
@[simp] theorem qamd (n k:Nat):¬(n+k<n):=by omega
theorem q49 (l:List Nat)(hl:l.length<=1000000000):CQ prog qq2 [lim l] (lim (trimL l)):=by
 refine qaf rfl fun H=>?_
 simp[lim];refine qbu (fun k E H'=>H'=H/\E 0=lim l/\k<=l.length/\E 3=.int .i64 k/\trimN l k=trimN l l.length) l.length ?_ ?_
 ·simp[lim]
 ·rintro n E H' ⟨rfl,h0,hn,h3,ht⟩;refine qa1 ?_;simp only[lim]at h0;rcases n with _|n
  ·simp[qco,h0,h3,trimL,<-ht,trimN]
  ·have e1:IntKind.i64.wrap (n:Int)=n:=by rw[wrap_i64]<;>omega
   have hlt:n<l.length:=by omega
   have p1:(0:Int)<=(n:Int)+1:=by omega
   have p2:(0:Int)<(n:Int)+1:=by omega
   by_cases hx:l[n]=0
   ·simp[qco,h0,h3,e1,hlt,hx,u32,p2];refine⟨n,by omega,rfl,by omega,rfl,?_⟩;rw[<-ht,trimN,if_pos (by rw[List.getElem?_eq_getElem hlt,hx])]
   ·simp[qco,h0,h3,e1,hlt,hx,u32,p1,p2,hn];rw[trimL,<-ht,trimN,if_neg (by rw[List.getElem?_eq_getElem hlt];simpa using hx),List.map_take]
theorem q66 {n k:Nat}(h1:n/2^k%2=1)(h2:n%2^k=0):tz n=k:=by
 have e:n=n/2^k*2^k:=by
  have:=Nat.div_add_mod' n (2^k);omega
 rw[e,q21 (by omega),q67 h1,Nat.zero_add]
theorem qai8 {x r:Nat}(h0:x≠0)(h:x<4294967296):tz (x+4294967296*r)=tz x:=by
 obtain⟨h1,_,h3⟩:=qmp h0;obtain⟨_,ht⟩:=q1g x h0 h;have⟨t,hk⟩:∃t,t=tz x:=⟨_,rfl⟩
 rw[<-hk]at h1 h3 ht ⊢;have e:4294967296*r=2^t*(2*(2^(31-t)*r)):=by
  rw[<-Nat.mul_assoc 2,<-Nat.mul_assoc (2^t),<-Nat.pow_succ',<-Nat.pow_add,show t+(31-t+1)=32 by omega]
 refine q66 ?_ ?_
 ·rw[e,Nat.add_mul_div_left _ _ (Nat.two_pow_pos t)];omega
 ·rw[e,Nat.add_mul_mod_self_left,h3]
theorem qaj0 (m:List Nat)(hm:m.length<=1000000)(lm:Li m)(h0:natV m≠0):CQ prog qy7 [lim m] (.int .i64 (tz (natV m))):=by
 refine qaf rfl fun H=>?_
 simp[lim];refine WK_up (fun i E H'=>H'=H/\E 3=.int .i64 ((32*i:Nat):Int)/\E 6=lim m/\E 7=.int .i64 m.length/\E 8=.int .i64 i/\natV (m.take i)=0) m.length ?_ ?_
 ·simp[lim,natV]
 ·rintro i E H' hi ⟨rfl,h3,h6,h7,h8,hv⟩;rcases Nat.lt_or_ge i m.length with hlt|hge
  ·simp only[lim]at h6;have g1:IntKind.i64.wrap ((i:Int)+1)=((i+1:Nat):Int):=by rw[wrap_i64]<;>omega
   have g2:IntKind.i64.wrap (((32*i:Nat):Int)+32)=((32*(i+1):Nat):Int):=by rw[wrap_i64]<;>omega
   have lx:m[i]<4294967296:=lm _ (List.getElem_mem hlt);by_cases hx:m[i]=0
   ·have hv2:natV (m.take (i+1))=0:=by rw[qal,hv,qak hlt,hx];simp
    have⟨A,hA⟩:∃A,A=32*i:=⟨_,rfl⟩
    have⟨B,hB⟩:∃B,B=32*(i+1):=⟨_,rfl⟩
    rw[<-hA]at h3 g2;rw[<-hB]at g2;simp[qhz,h3,h6,h7,h8,hlt,hx,u32,g1,g2,lim];exact⟨by omega,hv2⟩
   ·have e:tz (natV m)=32*i+tz m[i]:=by
     rw[qdf m i,hv,Nat.zero_add,qbc,qak hlt,pow32,Nat.mul_comm,q21 (by omega),qai8 hx lx];omega
    have ht:=(q1g m[i] hx lx).2;have hx':¬(m[i]:Int)=0:=by omega
    have⟨A,hA⟩:∃A,A=32*i:=⟨_,rfl⟩
    rw[<-hA]at h3 e;have g3:IntKind.i64.wrap ((A:Int)+tz m[i])=tz (natV m):=by rw[e,wrap_i64]<;>omega
    simp[qhz,h3,h6,h7,h8,hlt,hx,u32,lim];refine qab rfl rfl rfl (qpa m[i] hx lx) ?_;simp[g3]
  ·exfalso;rw[qat hge]at hv;exact h0 hv
theorem qlg (neg:Bool)(m:List Nat)(e:Int)(hm:m.length<=256)(lm:Li m)(he1:-1000000<=e)(he2:e<=1000000):CQ prog qop [.bool neg,lim m,.int .i64 e] (Dy.of neg (natV m) e).v:=by
 refine qaf rfl fun H=>?_
 simp;refine qab rfl rfl rfl (q49 m (by omega)) ?_;rw[qao lm];by_cases h0:natV m=0
 ·simp[h0,qb2,lim,Dy.of]
 ·have⟨x,hx⟩:∃x,x=qae (natV m):=⟨_,rfl⟩
  have hxv:natV x=natV m:=by rw[hx,qad]
  have lx:Li x:=by rw[hx];exact qah _
  have hxl:x.length<=m.length:=by rw[hx];exact limbsOf_len.2 (qan lm)
  have hne:x≠[]:=by rw[hx];exact qdh h0
  have hl:¬(x.length:Int)=0:=by
   intro h;exact hne (List.eq_nil_of_length_eq_zero (by omega))
  have hb:=qu1 lx (by rw[hxv];exact h0);have f1:IntKind.i64.wrap (e+(tz (natV m):Int))=e+tz (natV m):=by rw[hxv]at hb;rw[wrap_i64]<;>omega
  have hz:(qae (natV m/2^tz (natV m))).length<=256:=by
   rw[<-hxv];exact qcg (Nat.div_le_self _ _) (Nat.le_trans (limbsOf_len.2 (qan lx)) (by omega))
  rw[<-hx];simp[lim,hne];refine qab rfl rfl rfl (qaj0 x (by omega) lx (by rw[hxv];exact h0)) ?_;simp;refine qab rfl rfl rfl (qaba x (tz (natV x)) (by omega) lx (by omega)) ?_;rw[hxv];simp;refine qab rfl rfl rfl (qt0 _ (by omega)) ?_;simp;refine qab rfl rfl rfl (qxo _) ?_;simp[f1,Dy.of,h0,lim]
theorem qvi (d:Dy)(hd:d.W):CQ prog qq6 [d.v] (.tup [(if d.inR then d else Dy.zero).v,.int .i64 (if d.inR then 0 else 9)]):=by
 refine qaf rfl fun H=>?_
 simp;refine qab rfl rfl rfl (qu5 d hd.len hd.li) ?_;cases h:d.inR<;>simp[Dy.zero,lim]
theorem qsz (e:Int):CQ prog qpq [.int .i64 e] (.bool (decide (-32768<=e)&&decide (e<=32768))):=by
 refine qaf rfl fun H=>?_
 simp;grind
theorem Dy.of_W {neg:Bool}{n:Nat}{e:Int}(h:(qae n).length<=1000000):(Dy.of neg n e).W:=by
 unfold Dy.of;split
 ·exact⟨by intro x hx;simp at hx,by simp⟩
 ·exact⟨qah _,Nat.le_trans (qcg (Nat.div_le_self _ _) h) (by omega)⟩
def Dy.chk (d:Dy):Dy:=if d.inR then d else Dy.zero
def Dy.chkE (d:Dy):Int:=if d.inR then 0 else 9
theorem qxl (neg:Bool)(m:List Nat)(e:Int)(hm:m.length<=256)(lm:Li m)(he1:-32768<=e)(he2:e<=32768):CQ prog qwu [.bool neg,lim m,.int .i64 e] (.tup [(Dy.of neg (natV m) e).chk.v,.int .i64 (Dy.of neg (natV m) e).chkE]):=by
 refine qaf rfl fun H=>?_
 have h1:¬((256:Int)<m.length):=by omega
 have h2:¬(256<m.length):=by omega
 have w:(Dy.of neg (natV m) e).W:=Dy.of_W (Nat.le_trans (limbsOf_len.2 (qan lm)) (by omega));simp[lim,h1];refine qab rfl rfl rfl (qsz e) ?_;simp[he1,he2];refine qab rfl rfl rfl (qlg neg m e hm lm (by omega) (by omega)) ?_;simp;refine qab rfl rfl rfl (qvi _ w) ?_;simp[Dy.chk,Dy.chkE,lim]
def Dy.opp (d:Dy):Dy:=if d.valid=true/\d.m≠[]then⟨!d.neg,d.m,d.e⟩else Dy.zero
def Dy.abs (d:Dy):Dy:=if d.valid=true/\d.m≠[]then⟨false,d.m,d.e⟩else Dy.zero
theorem qain (d:Dy)(w:d.W):CQ prog qy9 [d.v] d.opp.v:=by
 refine qaf rfl fun H=>?_
 have:=w.len;simp;refine qab rfl rfl rfl (qfv d w.len w.li) ?_;cases hv:d.valid
 ·simp[Dy.opp,hv,Dy.zero,lim]
 ·by_cases hm:d.m=[]
  ·simp[Dy.opp,hv,hm,Dy.zero,lim]
  ·have hm':¬(d.m.length:Int)=0:=by intro h;exact hm (List.eq_nil_of_length_eq_zero (by omega))
   simp[lim,hm];refine qab rfl rfl rfl (qt0 d.m (by omega)) ?_;simp[Dy.opp,hv,hm,lim]
def Dy.scl (d:Dy)(k:Int):Dy:=if d.valid=true/\-32768<=k/\k<=32768 then(Dy.of d.neg (natV d.m) (d.e+k)).chk else Dy.zero
def Dy.sclE (d:Dy)(k:Int):Int:=if d.valid=true/\-32768<=k/\k<=32768 then(Dy.of d.neg (natV d.m) (d.e+k)).chkE else 1
theorem q0t (d:Dy)(k:Int)(w:d.W):CQ prog qud [d.v,.int .i64 k] (.tup [(d.scl k).v,.int .i64 (d.sclE k)]):=by
 refine qaf rfl fun H=>?_
 simp;refine qab rfl rfl rfl (qfv d w.len w.li) ?_;cases hv:d.valid
 ·simp[Dy.scl,Dy.sclE,hv,Dy.zero,lim]
 ·have ok:=Dy.Ok.of w.li hv;simp;refine qab rfl rfl rfl (qsz k) ?_;by_cases hk:-32768<=k/\k<=32768
  ·have h1:=ok.elo;have h2:=ok.ehi;have e1:IntKind.i64.wrap (d.e+k)=d.e+k:=by rw[wrap_i64]<;>omega
   simp[hk,e1];refine qab rfl rfl rfl (qlg d.neg d.m (d.e+k) ok.len ok.li (by omega) (by omega)) ?_;have w2:(Dy.of d.neg (natV d.m) (d.e+k)).W:=Dy.of_W (Nat.le_trans (limbsOf_len.2 (qan ok.li)) (by have:=ok.len;omega));simp;refine qab rfl rfl rfl (qvi _ w2) ?_;simp[Dy.scl,Dy.sclE,hv,hk,Dy.chk,Dy.chkE]
  ·have hk2:(decide (-32768<=k)&&decide (k<=32768))=false:=by
    simp;omega
   simp[hk2,Dy.scl,Dy.sclE,hv,hk,Dy.zero,lim]
end Go.Abs.W
namespace Go.Abs.W
def Sees (v:V)(l:List Nat)(H:Heap):Prop:=v=lim l\/∃b w,v=.ref b 1 0 l.length/\H[b]?=some (some ⟨1,l.map u32,true,w⟩)
theorem Sees.lim {l:List Nat}{H:Heap}:Sees (Go.Abs.lim l) l H:=.inl rfl
theorem Sees.len {H:Heap}{v:V}{l:List Nat}(h:Sees v l H):(v=.sl (l.map u32))\/∃b,v=.ref b 1 0 l.length:=by
 rcases h with h|⟨b,w,h,_⟩
 ·exact .inl h
 ·exact .inr ⟨b,h⟩
structure DmInv (A B:Nat)(o r:List Nat)(la n k:Nat):Prop where
 lo:o.length=la
 lr:r.length=n
 Lo:Li o
 Lr:Li r
 vr:natV r=A/2^k%B
 vo:natV o=A/2^k/B*2^k
def Dy.prod (a b:Dy):Dy:=Dy.of (a.neg != b.neg) (natV a.m*natV b.m) (a.e+b.e)
theorem Dy.of_valid {neg:Bool}{n:Nat}{e:Int}:(Dy.of neg n e).valid=(Dy.of neg n e).inR:=by
 by_cases h:n=0
 ·subst h;simp only[Dy.of,if_pos];rfl
 ·have hd:Dy.of neg n e=⟨neg,qae (n/2^tz n),e+tz n⟩:=by simp[Dy.of,h]
  rw[hd];obtain⟨h1,_,_⟩:=qmp h;have⟨N,hN⟩:∃N,N=n/2^tz n:=⟨_,rfl⟩
  rw[<-hN]at h1 ⊢;have hn0:N≠0:=by omega
  have ht:=qed N;have hv:=qad N;have⟨B,hB⟩:∃B,B=4096:=⟨_,rfl⟩
  have hb:=qeh (N:=N) (B:=B) (k:=128);cases hl:qae N with
  |nil=>exact absurd hl (qdh hn0)
  |cons x l=>
   rw[hl]at ht hv hb;have hx:x%2=1:=by simp only[natV]at hv;omega
   have hlast:(x :: l).getLast (by simp)≠0:=ht _ (List.getLast?_eq_some_getLast (by simp));simp only[Dy.valid];cases hr:Dy.inR ⟨neg,x :: l,e+tz n⟩with
   |false=>simp
   |true=>
    have hlen:(x :: l).length<=256:=by
     simp only[Dy.inR,Bool.or_eq_true,Bool.and_eq_true,decide_eq_true_eq,beq_iff_eq]at hr;have h4:bitL (natV (x :: l))<=B:=by
      rcases hr with h|h
      ·omega
      ·have:=h.1.1.1;omega
     rw[hv]at h4;have:=hb (Nat.lt_of_lt_of_le (qbw N) (Nat.pow_le_pow_right (by omega) h4)) (by omega);omega
    simp only[Bool.and_true,Bool.and_eq_true,decide_eq_true_eq];exact⟨⟨hlen,hx⟩,hlast⟩
theorem Dy.of_ok {neg:Bool}{n:Nat}{e:Int}(h:(Dy.of neg n e).inR=true):(Dy.of neg n e).Ok:=by
 refine Dy.Ok.of ?_ (by rw[Dy.of_valid];exact h);unfold Dy.of;split
 ·intro x hx;simp at hx
 ·exact qah _
theorem natV2 (n:Nat):natV [n%4294967296,n/4294967296]=n:=by simp[natV];omega
theorem q2r (n:Int)(h1:-4611686018427387904<=n)(h2:n<=4611686018427387904):CQ prog qom [.int .i64 n] (Dy.of (decide (n<0)) n.natAbs 0).v:=by
 refine qaf rfl fun H=>?_
 have⟨N,hN⟩:∃N,N=n.natAbs:=⟨_,rfl⟩
 have e3:=qfn N (by omega);have e5:qa3 .shr .u64 (N:Int) 32=some (.int .u64 ((N/2^32:Nat):Int)):=shr64 N 32 (by omega);have hv:=natV2 N;have⟨L,hL⟩:∃L,L=N%4294967296:=⟨_,rfl⟩
 have⟨C,hC⟩:∃C,C=N/4294967296:=⟨_,rfl⟩
 rw[<-hL]at e3;rw[show(2:Nat)^32=4294967296 from rfl,<-hC]at e5;rw[<-hL,<-hC]at hv;have e4:IntKind.u32.wrap (L:Int)=L:=qaq _ (by omega);have e6:IntKind.u32.wrap (C:Int)=C:=qaq _ (by omega);have oc:=Of_cq (decide (n<0)) [L,C] 0 (by simp) (by intro x hx;simp at hx;omega) (by omega) (by omega);rw[hv]at oc;rw[<-hN];by_cases hn:n<0
 ·have e1:IntKind.u64.wrap n=18446744073709551616+n:=by simp only[IntKind.wrap,IntKind.bits,IntKind.signed];simp;omega
  have e2:IntKind.u64.wrap (0-(18446744073709551616+n))=(N:Int):=by simp only[IntKind.wrap,IntKind.bits,IntKind.signed];simp;omega
  have e2':IntKind.u64.wrap (-(18446744073709551616+n))=(N:Int):=by rw[<-e2];congr 1;omega
  simp[hn]at oc ⊢;simp[e1,e2',e3,e4,e5,e6];refine qau rfl rfl (H1:=H++[some ⟨3,[.agg [.bool false,.nil,.int .i64 0]],false,true⟩,some ⟨1,[.int .u32 L,.int .u32 C],true,false⟩]) (vs:=[.bool true,lim [L,C],.int .i64 0]) (by simp[prep,frzVs,frzV];rfl) oc ?_;simp
 ·have e1:IntKind.u64.wrap n=(N:Int):=by rw[qbd]<;>omega
  simp[hn]at oc ⊢;simp[e1,e3,e4,e5,e6];refine qau rfl rfl (H1:=H++[some ⟨3,[.agg [.bool false,.nil,.int .i64 0]],false,true⟩,some ⟨1,[.int .u32 L,.int .u32 C],true,false⟩]) (vs:=[.bool false,lim [L,C],.int .i64 0]) (by simp[prep,frzVs,frzV];rfl) oc ?_;simp
theorem qaio (n:Int)(h1:-4611686018427387904<=n)(h2:n<=4611686018427387904):CQ prog qza [.int .i64 n] (Dy.of (decide (n<0)) n.natAbs 0).v:=by
 refine qaf rfl fun H=>?_
 have⟨N,hN⟩:∃N,N=n.natAbs:=⟨_,rfl⟩
 have e3:=qa7 N;have e5:qa3 .shr .u64 (N:Int) 32=some (.int .u64 ((N/2^32:Nat):Int)):=shr64 N 32 (by omega);have hv:=natV2 N;have⟨L,hL⟩:∃L,L=N%4294967296:=⟨_,rfl⟩
 have⟨C,hC⟩:∃C,C=N/4294967296:=⟨_,rfl⟩
 rw[<-hL]at e3;rw[show(2:Nat)^32=4294967296 from rfl,<-hC]at e5;rw[<-hL,<-hC]at hv;have e6:IntKind.u32.wrap (C:Int)=C:=qaq _ (by omega);have oc:=qlg (decide (n<0)) [L,C] 0 (by simp) (by intro x hx;simp at hx;omega) (by omega) (by omega);rw[hv]at oc;rw[<-hN];by_cases hn:n<0
 ·have e1:IntKind.u64.wrap n=18446744073709551616+n:=by simp only[IntKind.wrap,IntKind.bits,IntKind.signed];simp;omega
  have e2:IntKind.u64.wrap (0-(18446744073709551616+n))=(N:Int):=by simp only[IntKind.wrap,IntKind.bits,IntKind.signed];simp;omega
  have e2':IntKind.u64.wrap (-(18446744073709551616+n))=(N:Int):=by rw[<-e2];congr 1;omega
  simp[hn]at oc ⊢;simp[e1,e2',e3,e5,e6];refine qau rfl rfl (H1:=H++[some ⟨3,[.agg [.bool false,.nil,.int .i64 0]],false,true⟩,some ⟨1,[.int .u32 L,.int .u32 C],true,false⟩]) (vs:=[.bool true,lim [L,C],.int .i64 0]) (by simp[prep,frzVs,frzV];rfl) oc ?_;simp
 ·have e1:IntKind.u64.wrap n=(N:Int):=by rw[qbd]<;>omega
  simp[hn]at oc ⊢;simp[e1,e3,e5,e6];refine qau rfl rfl (H1:=H++[some ⟨3,[.agg [.bool false,.nil,.int .i64 0]],false,true⟩,some ⟨1,[.int .u32 L,.int .u32 C],true,false⟩]) (vs:=[.bool false,lim [L,C],.int .i64 0]) (by simp[prep,frzVs,frzV];rfl) oc ?_;simp
end Go.Abs.W
