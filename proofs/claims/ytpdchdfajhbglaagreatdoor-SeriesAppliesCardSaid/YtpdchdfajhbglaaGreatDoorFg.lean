/- Parts of the proof: FpDyR, FpR01a, FpR01b, FpR01c, FpR01d, FpR01e, FpR02, FpR02b. -/
import Derived.Test.YtpdchdfajhbglaaGreatDoorFf
namespace Go.Abs.W
set_option maxHeartbeats 4000000
@[simp] theorem qaqs (n k:Nat):¬(n+k<n):=by omega
theorem qaba (l:List Nat)(hl:l.length<=1000000000):CQ prog qve [lim l] (lim (trimL l)):=by
 refine qag rfl fun H=>?_
 simp[lim];refine qb1 (fun k E H'=>H'=H/\E 0=lim l/\k<=l.length/\E 3=.int .i64 k/\trimN l k=trimN l l.length) l.length ?_ ?_
 ·simp[lim]
 ·rintro n E H' ⟨rfl,h0,hn,h3,ht⟩;refine qaq ?_;simp only[lim]at h0;rcases n with _|n
  ·simp[qda,h0,h3,trimL,<-ht,trimN]
  ·have e1:IntKind.i64.wrap (n:Int)=n:=by rw[wrap_i64]<;>omega
   have hlt:n<l.length:=by omega
   have p1:(0:Int)<=(n:Int)+1:=by omega
   have p2:(0:Int)<(n:Int)+1:=by omega
   by_cases hx:l[n]=0
   ·simp[qda,h0,h3,e1,hlt,hx,u32,p2];refine⟨n,by omega,rfl,by omega,rfl,?_⟩;rw[<-ht,trimN,if_pos (by rw[List.getElem?_eq_getElem hlt,hx])]
   ·simp[qda,h0,h3,e1,hlt,hx,u32,p1,p2,hn];rw[trimL,<-ht,trimN,if_neg (by rw[List.getElem?_eq_getElem hlt];simpa using hx),List.map_take]
theorem qacw {n k:Nat}(h1:n/2^k%2=1)(h2:n%2^k=0):tz n=k:=by
 have e:n=n/2^k*2^k:=by
  have:=Nat.div_add_mod' n (2^k);omega
 rw[e,q9a (by omega),qacx h1,Nat.zero_add]
theorem qan8 {x r:Nat}(h0:x≠0)(h:x<4294967296):tz (x+4294967296*r)=tz x:=by
 obtain⟨h1,_,h3⟩:=qq7 h0;obtain⟨_,ht⟩:=q7x x h0 h;have⟨t,hk⟩:∃t,t=tz x:=⟨_,rfl⟩
 rw[<-hk]at h1 h3 ht ⊢;have e:4294967296*r=2^t*(2*(2^(31-t)*r)):=by
  rw[<-Nat.mul_assoc 2,<-Nat.mul_assoc (2^t),<-Nat.pow_succ',<-Nat.pow_add,show t+(31-t+1)=32 by omega]
 refine qacw ?_ ?_
 ·rw[e,Nat.add_mul_div_left _ _ (Nat.two_pow_pos t)];omega
 ·rw[e,Nat.add_mul_mod_self_left,h3]
theorem qaov (m:List Nat)(hm:m.length<=1000000)(lm:Li m)(h0:natV m≠0):CQ prog q5s [lim m] (.int .i64 (tz (natV m))):=by
 refine qag rfl fun H=>?_
 simp[lim];refine WK_up (fun i E H'=>H'=H/\E 3=.int .i64 ((32*i:Nat):Int)/\E 6=lim m/\E 7=.int .i64 m.length/\E 8=.int .i64 i/\natV (m.take i)=0) m.length ?_ ?_
 ·simp[lim,natV]
 ·rintro i E H' hi ⟨rfl,h3,h6,h7,h8,hv⟩;rcases Nat.lt_or_ge i m.length with hlt|hge
  ·simp only[lim]at h6;have g1:IntKind.i64.wrap ((i:Int)+1)=((i+1:Nat):Int):=by rw[wrap_i64]<;>omega
   have g2:IntKind.i64.wrap (((32*i:Nat):Int)+32)=((32*(i+1):Nat):Int):=by rw[wrap_i64]<;>omega
   have lx:m[i]<4294967296:=lm _ (List.getElem_mem hlt);by_cases hx:m[i]=0
   ·have hv2:natV (m.take (i+1))=0:=by rw[qam,hv,qaw hlt,hx];simp
    have⟨A,hA⟩:∃A,A=32*i:=⟨_,rfl⟩
    have⟨B,hB⟩:∃B,B=32*(i+1):=⟨_,rfl⟩
    rw[<-hA]at h3 g2;rw[<-hB]at g2;simp[qkl,h3,h6,h7,h8,hlt,hx,u32,g1,g2,lim];exact⟨by omega,hv2⟩
   ·have e:tz (natV m)=32*i+tz m[i]:=by
     rw[qck m i,hv,Nat.zero_add,qa2,qaw hlt,pow32,Nat.mul_comm,q9a (by omega),qan8 hx lx];omega
    have ht:=(q7x m[i] hx lx).2;have hx':¬(m[i]:Int)=0:=by omega
    have⟨A,hA⟩:∃A,A=32*i:=⟨_,rfl⟩
    rw[<-hA]at h3 e;have g3:IntKind.i64.wrap ((A:Int)+tz m[i])=tz (natV m):=by rw[e,wrap_i64]<;>omega
    simp[qkl,h3,h6,h7,h8,hlt,hx,u32,lim];refine qaa rfl rfl rfl (qs6 m[i] hx lx) ?_;simp[g3]
  ·exfalso;rw[qal hge]at hv;exact h0 hv
theorem qpw (neg:Bool)(m:List Nat)(e:Int)(hm:m.length<=256)(lm:Li m)(he1:-1000000<=e)(he2:e<=1000000):CQ prog qsx [.bool neg,lim m,.int .i64 e] (Dy.of neg (natV m) e).v:=by
 refine qag rfl fun H=>?_
 simp;refine qaa rfl rfl rfl (qaba m (by omega)) ?_;rw[qak lm];by_cases h0:natV m=0
 ·simp[h0,qa8,lim,Dy.of]
 ·have⟨x,hx⟩:∃x,x=qad (natV m):=⟨_,rfl⟩
  have hxv:natV x=natV m:=by rw[hx,qac]
  have lx:Li x:=by rw[hx];exact qaf _
  have hxl:x.length<=m.length:=by rw[hx];exact limbsOf_len.2 (qan lm)
  have hne:x≠[]:=by rw[hx];exact qcu h0
  have hl:¬(x.length:Int)=0:=by
   intro h;exact hne (List.eq_nil_of_length_eq_zero (by omega))
  have hb:=q0q lx (by rw[hxv];exact h0);have f1:IntKind.i64.wrap (e+(tz (natV m):Int))=e+tz (natV m):=by rw[hxv]at hb;rw[wrap_i64]<;>omega
  have hz:(qad (natV m/2^tz (natV m))).length<=256:=by
   rw[<-hxv];exact qbg (Nat.div_le_self _ _) (Nat.le_trans (limbsOf_len.2 (qan lx)) (by omega))
  rw[<-hx];simp[lim,hne];refine qaa rfl rfl rfl (qaov x (by omega) lx (by rw[hxv];exact h0)) ?_;simp;refine qaa rfl rfl rfl (q8z x (tz (natV x)) (by omega) lx (by omega)) ?_;rw[hxv];simp;refine qaa rfl rfl rfl (qtc _ (by omega)) ?_;simp;refine qaa rfl rfl rfl (q4f _) ?_;simp[f1,Dy.of,h0,lim]
theorem q1a (d:Dy)(hd:d.W):CQ prog qvi [d.v] (.tup [(if d.inR then d else Dy.zero).v,.int .i64 (if d.inR then 0 else 9)]):=by
 refine qag rfl fun H=>?_
 simp;refine qaa rfl rfl rfl (q0v d hd.len hd.li) ?_;cases h:d.inR<;>simp[Dy.zero,lim]
theorem qyb (e:Int):CQ prog qtw [.int .i64 e] (.bool (decide (-32768<=e)&&decide (e<=32768))):=by
 refine qag rfl fun H=>?_
 simp;grind
theorem Dy.of_W {neg:Bool}{n:Nat}{e:Int}(h:(qad n).length<=1000000):(Dy.of neg n e).W:=by
 unfold Dy.of;split
 ·exact⟨by intro x hx;simp at hx,by simp⟩
 ·exact⟨qaf _,Nat.le_trans (qbg (Nat.div_le_self _ _) h) (by omega)⟩
def Dy.chk (d:Dy):Dy:=if d.inR then d else Dy.zero
def Dy.chkE (d:Dy):Int:=if d.inR then 0 else 9
theorem q4b (neg:Bool)(m:List Nat)(e:Int)(hm:m.length<=256)(lm:Li m)(he1:-32768<=e)(he2:e<=32768):CQ prog q3f [.bool neg,lim m,.int .i64 e] (.tup [(Dy.of neg (natV m) e).chk.v,.int .i64 (Dy.of neg (natV m) e).chkE]):=by
 refine qag rfl fun H=>?_
 have h1:¬((256:Int)<m.length):=by omega
 have h2:¬(256<m.length):=by omega
 have w:(Dy.of neg (natV m) e).W:=Dy.of_W (Nat.le_trans (limbsOf_len.2 (qan lm)) (by omega));simp[lim,h1];refine qaa rfl rfl rfl (qyb e) ?_;simp[he1,he2];refine qaa rfl rfl rfl (qpw neg m e hm lm (by omega) (by omega)) ?_;simp;refine qaa rfl rfl rfl (q1a _ w) ?_;simp[Dy.chk,Dy.chkE,lim]
def Dy.opp (d:Dy):Dy:=if d.valid=true/\d.m≠[]then⟨!d.neg,d.m,d.e⟩else Dy.zero
def Dy.abs (d:Dy):Dy:=if d.valid=true/\d.m≠[]then⟨false,d.m,d.e⟩else Dy.zero
theorem qr6 (d:Dy)(w:d.W):CQ prog q5u [d.v] d.opp.v:=by
 refine qag rfl fun H=>?_
 have:=w.len;simp;refine qaa rfl rfl rfl (qe4 d w.len w.li) ?_;cases hv:d.valid
 ·simp[Dy.opp,hv,Dy.zero,lim]
 ·by_cases hm:d.m=[]
  ·simp[Dy.opp,hv,hm,Dy.zero,lim]
  ·have hm':¬(d.m.length:Int)=0:=by intro h;exact hm (List.eq_nil_of_length_eq_zero (by omega))
   simp[lim,hm];refine qaa rfl rfl rfl (qtc d.m (by omega)) ?_;simp[Dy.opp,hv,hm,lim]
theorem qy1 (d:Dy)(w:d.W):CQ prog q5w [d.v] d.abs.v:=by
 refine qag rfl fun H=>?_
 have:=w.len;simp;refine qaa rfl rfl rfl (qe4 d w.len w.li) ?_;cases hv:d.valid
 ·simp[Dy.abs,hv,Dy.zero,lim]
 ·by_cases hm:d.m=[]
  ·simp[Dy.abs,hv,hm,Dy.zero,lim]
  ·have hm':¬(d.m.length:Int)=0:=by intro h;exact hm (List.eq_nil_of_length_eq_zero (by omega))
   simp[lim,hm];refine qaa rfl rfl rfl (qtc d.m (by omega)) ?_;simp[Dy.abs,hv,hm,lim]
theorem q4c (d:Dy)(w:d.W):CQ prog q3g [d.v] (.int .i64 (if d.valid then bitL (natV d.m)else 0)):=by
 refine qag rfl fun H=>?_
 simp;refine qaa rfl rfl rfl (qe4 d w.len w.li) ?_;cases hv:d.valid
 ·simp
 ·simp;refine qaa rfl rfl rfl (q7f d.m w.len w.li) ?_;simp
def Dy.scl (d:Dy)(k:Int):Dy:=if d.valid=true/\-32768<=k/\k<=32768 then(Dy.of d.neg (natV d.m) (d.e+k)).chk else Dy.zero
def Dy.sclE (d:Dy)(k:Int):Int:=if d.valid=true/\-32768<=k/\k<=32768 then(Dy.of d.neg (natV d.m) (d.e+k)).chkE else 1
theorem q67 (d:Dy)(k:Int)(w:d.W):CQ prog qz2 [d.v,.int .i64 k] (.tup [(d.scl k).v,.int .i64 (d.sclE k)]):=by
 refine qag rfl fun H=>?_
 simp;refine qaa rfl rfl rfl (qe4 d w.len w.li) ?_;cases hv:d.valid
 ·simp[Dy.scl,Dy.sclE,hv,Dy.zero,lim]
 ·have ok:=Dy.Ok.of w.li hv;simp;refine qaa rfl rfl rfl (qyb k) ?_;by_cases hk:-32768<=k/\k<=32768
  ·have h1:=ok.elo;have h2:=ok.ehi;have e1:IntKind.i64.wrap (d.e+k)=d.e+k:=by rw[wrap_i64]<;>omega
   simp[hk,e1];refine qaa rfl rfl rfl (qpw d.neg d.m (d.e+k) ok.len ok.li (by omega) (by omega)) ?_;have w2:(Dy.of d.neg (natV d.m) (d.e+k)).W:=Dy.of_W (Nat.le_trans (limbsOf_len.2 (qan ok.li)) (by have:=ok.len;omega));simp;refine qaa rfl rfl rfl (q1a _ w2) ?_;simp[Dy.scl,Dy.sclE,hv,hk,Dy.chk,Dy.chkE]
  ·have hk2:(decide (-32768<=k)&&decide (k<=32768))=false:=by
    simp;omega
   simp[hk2,Dy.scl,Dy.sclE,hv,hk,Dy.zero,lim]
end Go.Abs.W
namespace Go.Abs.W
set_option maxHeartbeats 4000000
theorem qg6 (l:List Nat)(hl:l.length<=1000000000):CQ prog qev [lim l] (lim (trimL l)):=by
 refine qag rfl fun H=>?_
 simp[lim];refine qb1 (fun k E H'=>H'=H/\E 0=lim l/\k<=l.length/\E 3=.int .i64 k/\trimN l k=trimN l l.length) l.length ?_ ?_
 ·simp[lim]
 ·rintro n E H' ⟨rfl,h0,hn,h3,ht⟩;refine qaq ?_;simp only[lim]at h0;have hlim:∀k,k<=l.length->k*4<=140737488355328:=by omega
  have fin':∀k,k=trimN l l.length->k<=l.length->(List.take k (List.map u32 l))=List.map u32 (trimL l):=by
   intro k hk _;rw[trimL,hk,List.map_take]
  rcases n with _|n
  ·have ft:=fin' 0 (by rw[<-ht];rfl) (by omega);simp[qeg,h0,h3,qa6,<-ft]
  ·have e1:IntKind.i64.wrap (n:Int)=n:=by rw[wrap_i64]<;>omega
   have hlt:n<l.length:=by omega
   have p1:(0:Int)<=(n:Int)+1:=by omega
   have p2:(0:Int)<(n:Int)+1:=by omega
   by_cases hx:l[n]=0
   ·simp[qeg,h0,h3,e1,hlt,hx,u32,p2];refine⟨n,by omega,rfl,by omega,rfl,?_⟩;rw[<-ht,trimN,if_pos (by rw[List.getElem?_eq_getElem hlt,hx])]
   ·have hx':¬((l[n]:Int)=0):=by omega
    have ft:=fin' (n+1) (by rw[<-ht,trimN,if_neg (by rw[List.getElem?_eq_getElem hlt];simpa using hx)]) (by omega);have f8:=hlim (n+1) (by omega);have hne:l≠[]:=by intro h;rw[h]at hlt;simp at hlt
    have hhd:qdd 1 (List.take (n+1) (List.map u32 l))=true:=by
     cases l with
     |nil=>exact absurd rfl hne
     |cons x l=>simp[qdd]
    have⟨ys,hys⟩:∃ys,ys=List.take (n+1) (List.map u32 l):=⟨_,rfl⟩
    rw[<-hys]at hhd ft;have hyl:ys.length=n+1:=by rw[hys];simp;omega
    have hyn:ys≠[]:=by intro h;rw[h]at hyl;simp at hyl
    simp only[qdd]at hhd;simp[qeg,h0,h3,e1,hlt,hx,u32,p1,p2,hn,qa6,<-hys];rw[if_pos hhd];simp[hyl,f8,hyn];rw[<-ft,List.take_of_length_le (by omega)]
def Sees (v:V)(l:List Nat)(H:Heap):Prop:=v=lim l\/∃b w,v=.ref b 1 0 l.length/\H[b]?=some (some ⟨1,l.map u32,true,w⟩)
theorem Sees.lim {l:List Nat}{H:Heap}:Sees (Go.Abs.lim l) l H:=.inl rfl
theorem q6g {H:Heap}{v:V}{l:List Nat}(h:Sees v l H)(ll:Li l)(i:Nat):Ev prog (.call quj [v,.int .i64 i] H) (.ret (.int .u64 (dig l i)) H):=by
 refine qej rfl ?_;have dl:=qbd ll i;have e:=qah (dig l i) (by omega);rcases h with rfl|⟨b,w,rfl,hb⟩
 ·by_cases hi:i<l.length
  ·rw[qaw hi]at e ⊢;simp[Go.Abs.lim,hi,u32,e]
  ·rw[qfv (by omega)];simp[Go.Abs.lim,hi]
 ·by_cases hi:i<l.length
  ·rw[qaw hi]at e ⊢;simp[hi,u32,e,hb]
  ·rw[qfv (by omega)];simp[hi]
theorem qum (l:List Nat)(ll:Li l)(i:Nat):CQ prog quj [lim l,.int .i64 i] (.int .u64 (dig l i)):=fun _=>q6g Sees.lim ll i
theorem qww {a b:List Nat}(ha:Li a){k:Nat}(hd:natV (a.drop (k+1))=natV (b.drop (k+1)))(h:dig a k<dig b k):natV a<natV b:=by
 rw[qck a k,qck b k,qa2,qa2 b,hd];have h1:=qan (ha.take k);have h0:4294967296^(a.take k).length<=4294967296^k:=Nat.pow_le_pow_right (by omega) (by simp;omega);have h2:4294967296^k*(dig a k+4294967296*natV (b.drop (k+1)))+4294967296^k<=4294967296^k*(dig b k+4294967296*natV (b.drop (k+1))):=by
  rw[<-Nat.mul_succ];exact Nat.mul_le_mul_left _ (by omega)
 omega
theorem Sees.len {H:Heap}{v:V}{l:List Nat}(h:Sees v l H):(v=.sl (l.map u32))\/∃b,v=.ref b 1 0 l.length:=by
 rcases h with h|⟨b,w,h,_⟩
 ·exact .inl h
 ·exact .inr ⟨b,h⟩
theorem qahp {H:Heap}{va vb:V}{a b:List Nat}(sa:Sees va a H)(sb:Sees vb b H)(la:Li a)(lb:Li b)(ha:a.length<=1000000000)(hb:b.length<=1000000000):Ev prog (.call qsv [va,vb] H) (.ret (.int .i64 (cmpN (natV a) (natV b))) H):=by
 refine qej rfl ?_;have⟨n,hn⟩:∃n,n=max a.length b.length:=⟨_,rfl⟩
 have e0:(if a.length<b.length then(b.length:Int)else a.length)=n:=by split<;>omega
 have e1:IntKind.i64.wrap ((n:Int)-1)=(n:Int)-1:=by rw[wrap_i64]<;>omega
 have go:∀E:Env,E 0=va->E 1=vb->E 5=.int .i64 ((n:Int)-1)->WK prog H.length (.loop qe2) [.blk 0,.seq (.seq (.region false [⟨some 4,.mv (.c (.int .i64 0)),none,false⟩]) .ret)] E H
  (fun x E1 H1=>(x=.normal\/x=.ret)/\fin false H.length H1 (E1 4)=some (.int .i64 (cmpN (natV a) (natV b)),H)):=by
  intro E g0 g1 g5;refine qb1 (fun k E H'=>H'=H/\E 0=va/\E 1=vb/\k<=n/\E 5=.int .i64 ((k:Int)-1)/\natV (a.drop k)=natV (b.drop k)) n ?_ ?_
  ·exact⟨rfl,g0,g1,Nat.le_refl _,g5,by rw[List.drop_of_length_le (by omega),List.drop_of_length_le (by omega)]⟩
  ·rintro k E H' ⟨rfl,h0,h1,hk,h5,hd⟩;refine qaq ?_;rcases k with _|k
   ·have h7:¬((0:Int)<=-1):=by omega
    simp only[List.drop_zero]at hd;simp[qe2,h5,hd,cmpN]
   ·have e2:(k+1:Int)-1=k:=by omega
    have p1:(0:Int)<=k:=by omega
    have e3:IntKind.i64.wrap ((k:Int)-1)=(k:Int)-1:=by rw[wrap_i64]<;>omega
    simp[qe2,h0,h5,e2,p1];refine WL_ev rfl rfl rfl (q6g sa la k) ?_;simp[h1,h5,e2];refine WL_ev rfl rfl rfl (q6g sb lb k) ?_;by_cases hlt:dig a k<dig b k
    ·have h2:=qww la hd hlt;simp[hlt,cmpN,h2]
    ·have hlt':¬((dig a k:Int)<dig b k):=by omega
     simp[hlt,h0,h5,e2];refine WL_ev rfl rfl rfl (q6g sa la k) ?_;simp[h1,h5,e2];refine WL_ev rfl rfl rfl (q6g sb lb k) ?_;by_cases hgt:dig b k<dig a k
     ·have h2:=qww lb hd.symm hgt;have h3:¬natV a<natV b:=by omega
      simp[hgt,cmpN,h2,h3]
     ·simp[hgt,h0,h1,h5,e2,e3];refine⟨k,by omega,by omega,rfl,?_⟩;rw[qa2,qa2 b,hd];omega
 rcases sa.len with rfl|⟨ba,rfl⟩<;>rcases sb.len with rfl|⟨bb,rfl⟩<;>simp[e0,e1]<;>exact go _ (by simp) (by simp) (by simp)
theorem q85 (a b:List Nat)(la:Li a)(lb:Li b)(ha:a.length<=1000000000)(hb:b.length<=1000000000):CQ prog qsv [lim a,lim b] (.int .i64 (cmpN (natV a) (natV b))):=fun _=>qahp Sees.lim Sees.lim la lb ha hb
theorem q3v {x y:Nat}:cmpN x y<0↔x<y:=by unfold cmpN;split<;>(try split)<;>omega
theorem qagi {x y:Nat}:cmpN x y<=0↔x<=y:=by unfold cmpN;split<;>(try split)<;>omega
theorem qagj {x y:Nat}:cmpN x y=0↔x=y:=by unfold cmpN;split<;>(try split)<;>omega
theorem qamm {H:Heap}{va vb:V}{a b:List Nat}(sa:Sees va a H)(sb:Sees vb b H)(la:Li a)(lb:Li b)(ha:a.length<=1000000000)(hb:b.length<=1000000000):Ev prog (.call qzw [va,vb] H) (.ret (.bool (decide (natV a<natV b))) H):=by
 refine qej rfl ?_;simp;refine WL_ev rfl rfl rfl (qahp sa sb la lb ha hb) ?_;simp[q3v]
end Go.Abs.W
namespace Go.Abs.W
set_option maxHeartbeats 4000000
theorem qlb (a:List Nat)(ha:a.length<=1000000)(la:Li a):CQ prog qzy [lim a] (.int .i64 (bitL (natV a))):=by
 refine qag rfl fun H=>?_
 simp[lim];have e1:IntKind.i64.wrap ((a.length:Int)-1)=(a.length:Int)-1:=by rw[wrap_i64]<;>omega
 refine qb1 (fun k E H'=>H'=H/\E 0=lim a/\k<=a.length/\E 3=.int .i64 ((k:Int)-1)/\natV (a.drop k)=0) a.length ?_ ?_
 ·simp[lim,e1,natV]
 ·rintro k E H' ⟨rfl,h0,hk,h3,hd⟩;refine qaq ?_;simp only[lim]at h0;rcases k with _|k
  ·have hz:natV a=0:=by simpa using hd
   simp[qei,h3,hz,qbi]
  ·have e2:(k+1:Int)-1=k:=by omega
   have p1:(0:Int)<=k:=by omega
   have hlt:k<a.length:=by omega
   have e3:IntKind.i64.wrap ((k:Int)-1)=(k:Int)-1:=by rw[wrap_i64]<;>omega
   by_cases hx:a[k]=0
   ·simp[qei,h0,h3,e2,p1,hlt,hx,u32,e3];refine⟨k,by omega,by simp[lim],by omega,rfl,?_⟩;rw[qa2,qaw hlt,hx,hd]
   ·have lx:a[k]<4294967296:=la _ (List.getElem_mem hlt);have e4:IntKind.i64.wrap (32*(k:Int))=((32*k:Nat):Int):=by rw[wrap_i64]<;>omega
    have hb:bitL (natV a)=32*k+bitL a[k]:=by
     rw[qck a k,qa2,hd,qaw hlt,Nat.mul_zero,Nat.add_zero,Nat.add_comm,Nat.mul_comm,pow32];have h5:=qan (la.take k);have h6:4294967296^(a.take k).length<=4294967296^k:=Nat.pow_le_pow_right (by omega) (by simp;omega);rw[pow32 k]at h6;rw[qdr hx (by omega)];omega
    have⟨N,hN⟩:∃N,N=32*k:=⟨_,rfl⟩
    rw[<-hN]at e4 hb;simp[qei,h0,h3,e2,p1,hlt,hx,u32,e4];have hbl:=qt5 lx;refine WK_up (fun i E H''=>H''=H'/\∃y,y<4294967296/\E 5=.int .u32 (y:Nat)/\E 4=.int .i64 ((N+i:Nat):Int)/\bitL y+i=bitL a[k]) (bitL a[k]) ?_ ?_
    ·simp;exact⟨a[k],lx,rfl,rfl⟩
    ·rintro i E H'' hi ⟨rfl,y,hy,h5,h4,hby⟩;by_cases hy0:y=0
     ·subst hy0;have:i=bitL a[k]:=by rw[qbi]at hby;omega
      have⟨M,hM⟩:∃M,M=N+i:=⟨_,rfl⟩
      rw[<-hM]at h4;have hM2:bitL (natV a)=M:=by omega
      simp[qgs,h5,h4,hM2]
     ·have hy0':(0:Int)<y:=by omega
      have hy0'':0<y:=by omega
      have f1:qa1 .shr .u32 (y:Int) 1=some (.int .u32 ((y/2:Nat):Int)):=shr32 y 1 (by omega);have⟨z,hz⟩:∃z,z=y/2:=⟨_,rfl⟩
      rw[<-hz]at f1;have hh:=q6r hy0;rw[<-hz]at hh;have⟨M,hM⟩:∃M,M=N+i:=⟨_,rfl⟩
      have⟨M1,hM1⟩:∃M1,M1=N+(i+1):=⟨_,rfl⟩
      have f2:IntKind.i64.wrap ((M:Int)+1)=(M1:Int):=by rw[wrap_i64]<;>omega
      rw[<-hM]at h4;simp[qgs,h5,h4,hy0'',f1,f2];exact⟨by omega,z,by omega,rfl,by omega,by omega⟩
theorem qahs (a b:List Nat)(ha:a.length<=1000000)(hb:b.length<=1000000)(la:Li a)(lb:Li b):CQ prog qsw [lim a,lim b] (lim (qad (natV a+natV b))):=by
 refine qag rfl fun H=>?_
 simp[lim];have⟨n,hn⟩:∃n,n=max a.length b.length:=⟨_,rfl⟩
 have e0:(if a.length<b.length then(b.length:Int)else a.length)=n:=by split<;>omega
 refine WK_up (fun i E H'=>E 0=lim a/\E 1=lim b/\E 7=.int .i64 i/\∃c o,c<2/\(i<=n\/c=0)/\E 6=.int .u64 (c:Nat)/\Out H H' (E 5) 1 (o.map u32)/\o.length=i/\Li o /\
  natV o+4294967296^i*c=natV (a.take i)+natV (b.take i)) (n+1) ?_ ?_
 ·simp[lim];exact⟨0,by omega,rfl,[],.nil,rfl,by intro x hx;simp at hx,by simp[natV]⟩
 ·rintro i E H' hi ⟨h0,h1,h7,c,o,hc,hin,h6,h5,ho,lo,ht⟩;have fin:c=0->n<=i->natV o=natV a+natV b:=by
   rintro rfl hni;rw[qal (l:=a) (by omega),qal (l:=b) (by omega)]at ht;omega
  have da:=qbd la i;have db:=qbd lb i;have sa:=qum a la i;have sb:=qum b lb i;have⟨T,hT⟩:∃T,T=c+dig a i+dig b i:=⟨_,rfl⟩
  have st:=q44 ho ht hT;have⟨L,hL⟩:∃L,L=T%4294967296:=⟨_,rfl⟩
  have⟨C,hC⟩:∃C,C=T/4294967296:=⟨_,rfl⟩
  have f6:bitsI .and .u64 (T:Int) 4294967295=some ((T%4294967296:Nat):Int):=qby T (by omega);have f7:qa1 .shr .u64 (T:Int) 32=some (.int .u64 ((T/4294967296:Nat):Int)):=shr64 T 32 (by omega);rw[<-hL]at f6 st;rw[<-hC]at f7 st;have f8:IntKind.u32.wrap (L:Int)=L:=qao _ (by omega);obtain⟨v',H'',e',ho'⟩:=h5.one L (by omega);have f1:IntKind.i64.wrap ((i:Int)+1)=((i+1:Nat):Int):=by rw[wrap_i64]<;>omega
  have t3:IntKind.u64.wrap ((dig a i:Int)+dig b i)=(dig a i:Int)+dig b i:=by rw[qax]<;>omega
  have t4:IntKind.u64.wrap ((dig a i:Int)+dig b i+c)=T:=by rw[qax]<;>omega
  have go:i<=n->(i<n\/c=1)->∃c,c<2/\(i+1<=n\/c=0)/\(C:Int)=(c:Nat)/\∃o,Out H H'' v' 1 (List.map u32 o)/\o.length=i+1/\Li o/\natV o+4294967296^(i+1)*c=natV (a.take (i+1))+natV (b.take (i+1)):=by
   intro h1 h2;refine⟨C,by omega,?_,rfl,o++[L],ho',by simp;omega,lo.append (by intro y hy;simp at hy;omega),st⟩;rcases Nat.lt_or_ge i n with h3|h3
   ·exact .inl h3
   ·right;rw[qfv (by omega),qfv (by omega)]at hT;omega
  simp only[lim]at h0 h1;rcases Nat.lt_or_ge i n with h2|h2
  ·have h2':(i:Int)<n:=by omega
   simp[qe3,h0,h1,h7,e0,h2];refine zq sa ?_;simp[h1,h7];refine zq sb ?_;simp[h0,h1,h6,h7,t3,t4,f6,f7,f8,f1,e',lim];exact⟨by omega,go (by omega) (.inl h2)⟩
  ·have h2':¬i<n:=by omega
   by_cases hc0:c=0
   ·have hv:=fin hc0 h2;subst hc0;simp[qe3,h0,h1,h6,h7,e0,h2'];obtain⟨H3,hp3,e3⟩:=h5.prep (g:=qev) rfl;refine qaj rfl rfl e3 (qg6 o (by omega)) ?_;rw[qak lo,hv];simp[qbo hp3,lim]
   ·have hin2:i=n:=by omega
    have hc1:(0:Int)<c:=by omega
    have hc2:0<c:=by omega
    simp[qe3,h0,h1,h6,h7,e0,h2',hc2];refine zq sa ?_;simp[h1,h7];refine zq sb ?_;simp[h0,h1,h6,h7,t3,t4,f6,f7,f8,f1,e',lim];exact⟨by omega,go (by omega) (.inr (by omega))⟩
theorem qani (a b:List Nat)(ha:a.length<=1000000)(hb:b.length<=a.length)(la:Li a)(lb:Li b)(hle:natV b<=natV a):CQ prog q29 [lim a,lim b] (lim (qad (natV a-natV b))):=by
 refine qag rfl fun H=>?_
 simp[lim];refine WK_up (fun i E H'=>E 0=lim a/\E 1=lim b/\E 7=.int .i64 i/\∃c o,c<2/\E 6=.int .u64 (c:Nat)/\Out H H' (E 5) 1 (o.map u32)/\o.length=i/\Li o /\
  natV o+natV (b.take i)=natV (a.take i)+4294967296^i*c) a.length ?_ ?_
 ·simp[lim];exact⟨0,by omega,rfl,[],.nil,rfl,by intro x hx;simp at hx,by simp[natV]⟩
 ·rintro i E H' hi ⟨h0,h1,h7,c,o,hc,h6,h5,ho,lo,ht⟩;simp only[lim]at h0 h1;rcases Nat.lt_or_ge i a.length with h2|h2
  ·have da:=qbd la i;have db:=qbd lb i;have sa:=qum a la i;have sb:=qum b lb i;have⟨T,hT⟩:∃T,T=dig a i+4294967296-(c+dig b i):=⟨_,rfl⟩
   have hT':T+(c+dig b i)=dig a i+4294967296:=by omega
   obtain⟨st,hC1⟩:=q0t ho ht hc da db hT';have⟨L,hL⟩:∃L,L=T%4294967296:=⟨_,rfl⟩
   have⟨C,hC⟩:∃C,C=T/4294967296:=⟨_,rfl⟩
   have f6:bitsI .and .u64 (T:Int) 4294967295=some ((T%4294967296:Nat):Int):=qby T (by omega);have f7:qa1 .shr .u64 (T:Int) 32=some (.int .u64 ((T/4294967296:Nat):Int)):=shr64 T 32 (by omega);rw[<-hL]at f6 st;rw[<-hC]at f7 st hC1;have f8:IntKind.u32.wrap (L:Int)=L:=qao _ (by omega);have f9:IntKind.u64.wrap (1-(C:Int))=((1-C:Nat):Int):=by rw[qax]<;>omega
   have⟨D,hD⟩:∃D,D=1-C:=⟨_,rfl⟩
   rw[<-hD]at f9 st;obtain⟨v',H'',e',ho'⟩:=h5.one L (by omega);have f1:IntKind.i64.wrap ((i:Int)+1)=((i+1:Nat):Int):=by rw[wrap_i64]<;>omega
   have go:∃c,c<2/\(D:Int)=(c:Nat)/\∃o,Out H H'' v' 1 (List.map u32 o)/\o.length=i+1/\Li o/\natV o+natV (b.take (i+1))=natV (a.take (i+1))+4294967296^(i+1)*c:=
    ⟨D,by omega,rfl,o++[L],ho',by simp;omega,lo.append (by intro y hy;simp at hy;omega),st⟩
   have t2:IntKind.u64.wrap ((dig a i:Int)+4294967296)=(dig a i:Int)+4294967296:=by rw[qax]<;>omega
   have t3:IntKind.u64.wrap ((dig a i:Int)+4294967296-dig b i)=(dig a i:Int)+4294967296-dig b i:=by rw[qax]<;>omega
   have t4:IntKind.u64.wrap ((dig a i:Int)+4294967296-dig b i-c)=T:=by rw[qax]<;>omega
   simp[qh2,h0,h7,h2];refine zq sa ?_;simp[h1,h7,t2];refine zq sb ?_;simp[h0,h1,h6,h7,t3,t4,f6,f7,f8,f9,f1,e',lim];exact go
  ·have h2':¬i<a.length:=by omega
   have hin:i=a.length:=by omega
   simp[qh2,h0,h7,h2'];obtain⟨H3,hp3,e3⟩:=h5.prep (g:=qev) rfl;refine qaj rfl rfl e3 (qg6 o (by omega)) ?_;have hlt:=qan lo;rw[qal h2,qal (l:=b) (by omega)]at ht;rw[ho]at hlt;have hv:natV o=natV a-natV b:=by
    rcases Nat.eq_zero_or_pos c with h0|h0
    ·subst h0;omega
    ·have:c=1:=by omega
     subst this;omega
   rw[qak lo,hv];simp[qbo hp3,lim]
end Go.Abs.W
namespace Go.Abs.W
set_option maxHeartbeats 4000000
theorem qt4 (a c s:Nat)(ha:a%2^s=0)(hc:c<2^s)(ha2:a<2^32)(hc2:c<2^32):bitsI .or .u32 (a:Int) (c:Int)=some ((a+c:Nat):Int)/\bitsI .or .u32 (c:Int) (a:Int)=some ((a+c:Nat):Int):=by
 have e:a |||c=a+c:=by
  have:=Nat.two_pow_add_eq_or_of_lt hc (a/2^s);rw[show 2^s*(a/2^s)=a by have:=Nat.div_add_mod a (2^s);omega]at this;exact this.symm
 have hlt:a |||c<2^32:=Nat.or_lt_two_pow ha2 hc2;constructor
 ·show some (IntKind.u32.wrap ((BitVec.ofInt 32 (a:Int) |||BitVec.ofInt 32 (c:Int)).toNat:Int))=_;rw[BitVec.toNat_or,qet,qet,Nat.mod_eq_of_lt ha2,Nat.mod_eq_of_lt hc2,qao _ hlt,e]
 ·show some (IntKind.u32.wrap ((BitVec.ofInt 32 (c:Int) |||BitVec.ofInt 32 (a:Int)).toNat:Int))=_;rw[BitVec.toNat_or,qet,qet,Nat.mod_eq_of_lt ha2,Nat.mod_eq_of_lt hc2,Nat.or_comm,qao _ hlt,e]
theorem qtd {H T:Heap}(l:List Nat):prep prog qev (H++some ⟨1,l.map u32,true,true⟩ :: T) [.ref H.length 1 0 l.length]=some ([lim l],H++some ⟨1,l.map u32,true,false⟩ :: T):=by
 refine Eq.trans (b:=frzVs _ _) rfl ?_;simp[frzVs,frzV,qbj,lim,List.take_of_length_le]
theorem qsh {l:List Nat}{i:Nat}(hl:Li l)(h:natV l<4294967296^i):dig l i=0:=by
 have h0:=(qiy hl h).2;rw[qa2]at h0;omega
theorem qahk (a b:List Nat)(ha:a.length<=500000)(hb:b.length<=500000)(la:Li a)(lb:Li b):CQ prog q3c [lim a,lim b] (lim (qad (natV a*natV b))):=by
 refine qag rfl fun H=>?_
 have⟨n,hn⟩:∃n,n=a.length+b.length+1:=⟨_,rfl⟩
 have f0:IntKind.i64.wrap ((a.length:Int)+b.length)=(a.length:Int)+b.length:=by rw[wrap_i64]<;>omega
 have f1:IntKind.i64.wrap ((a.length:Int)+b.length+1)=(n:Int):=by rw[wrap_i64]<;>omega
 have f4:n*4<=281474976710656/\n<=9223372036854775807:=by omega
 simp[lim,f0,f1,f4];refine WK_up (fun i E H'=>∃l,H'=H++[some ⟨1,l.map u32,true,true⟩]/\l.length=n/\Li l/\E 0=lim a/\E 1=lim b/\E 5=.ref H.length 1 0 n/\E 6=.int .i64 i/\natV l=natV (a.take i)*natV b) a.length ?_ ?_
 ·exact⟨List.replicate n 0,by rw[qes],by simp,qfo,by simp[lim],by simp[lim],by simp,by simp,by simp[natV,qfg]⟩
 ·rintro i E H' hi ⟨l,rfl,hl,ll,h0,h1,h5,h6,hv⟩;rcases Nat.lt_or_ge i a.length with hlt|hge
  ·simp only[lim]at h0 h1;have g1:IntKind.i64.wrap ((i:Int)+1)=((i+1:Nat):Int):=by rw[wrap_i64]<;>omega
   have lx:=la _ (List.getElem_mem hlt);have hz:dig l (i+b.length)=0:=by
    refine qsh ll ?_;rw[hv,Nat.pow_add];have h8:=qan (la.take i);have h9:=qan lb;rw[List.length_take,Nat.min_eq_left hi]at h8;rcases Nat.eq_zero_or_pos (natV b)with h|h
    ·rw[h,Nat.mul_zero];exact Nat.mul_pos (Nat.pow_pos (by omega)) (Nat.pow_pos (by omega))
    ·exact Nat.mul_lt_mul'' h8 h9
   simp[qh5,h0,h6,hlt];refine WK_up (fun k E H'=>∃l2 c,H'=H++[some ⟨1,l2.map u32,true,true⟩]/\l2.length=n/\Li l2/\c<4294967296/\(k<=b.length\/c=0)/\E 0=lim a/\E 1=lim b/\E 5=.ref H.length 1 0 n/\E 6=.int .i64 i/\E 7=.int .u64 (c:Nat)/\E 8=.int .i64 k /\
    l2.drop (i+k)=l.drop (i+k)/\natV l2+4294967296^(i+k)*c=natV l+4294967296^i*(a[i]*natV (b.take k))) (b.length+1) ?_ ?_
   ·exact⟨l,0,by simp,hl,ll,by omega,.inl (by omega),by simp[h0,lim],by simp[h1,lim],by simp[h5],by simp[h6],by simp,by simp,rfl,by simp[natV]⟩
   ·clear h0 h1 h5 h6;rintro k E H' hk ⟨l2,c,rfl,hl2,ll2,hc,hkc,h0,h1,h5,h6,h7,h8,hdr,hv2⟩;simp only[lim]at h0 h1;have hdk:dig l2 (i+k)=dig l (i+k):=by
     have q1:dig l2 (i+k)=dig (l2.drop (i+k)) 0:=by simp[dig]
     have q2:dig l (i+k)=dig (l.drop (i+k)) 0:=by simp[dig]
     rw[q1,q2,hdr]
    by_cases hgo:k<b.length\/c≠0
    ·have hkb:k<=b.length:=by omega
     have⟨j,hj⟩:∃j,j=i+k:=⟨_,rfl⟩
     rw[<-hj]at hdk hdr hv2;have hjn:j<n:=by omega
     have hjl:j<l2.length:=by omega
     have db:=qbd lb k;have dl:=qbd ll2 j;have sb:=qum b lb k;have⟨T,hT⟩:∃T,T=a[i]*dig b k+dig l2 j+c:=⟨_,rfl⟩
     obtain⟨m1,m2,m3,m4⟩:=q17 lx db dl hc;rw[<-hT]at m1 m4;have e1:4294967296^i*(a[i]*natV (b.take k))+4294967296^j*(a[i]*dig b k)=4294967296^i*(a[i]*natV (b.take (k+1))):=by
      rw[qam,hj,Nat.pow_add,Nat.mul_assoc,<-Nat.mul_add,Nat.mul_left_comm (4294967296^k),<-Nat.mul_add]
     have st:=q1v hv2 (qqs (v:=T%4294967296) hjl) hT;rw[e1]at st;have⟨M,hM⟩:∃M,M=a[i]*dig b k:=⟨_,rfl⟩
     rw[<-hM]at hT m2 m3;have hcn:k+1<=b.length\/T/4294967296=0:=by
      rcases Nat.lt_or_ge k b.length with h|h
      ·exact .inl h
      ·right;rw[qfv h,Nat.mul_zero]at hM;rw[hdk,hj,show k=b.length by omega,hz]at hT;omega
     rw[qaw hjl]at dl hT m3;have t1:IntKind.u64.wrap (a[i]:Int)=a[i]:=qah _ (by omega);have t3:IntKind.u64.wrap ((a[i]:Int)*dig b k)=M:=by
      rw[show(a[i]:Int)*dig b k=((M:Nat):Int) by rw[hM];simp];exact qah _ m2
     have t4:IntKind.u64.wrap (l2[j]:Int)=l2[j]:=qah _ (by omega);have t5:IntKind.u64.wrap ((M:Int)+l2[j])=(M:Int)+l2[j]:=by rw[qax]<;>omega
     have t6:IntKind.u64.wrap ((M:Int)+l2[j]+c)=T:=by rw[qax]<;>omega
     have t7:bitsI .and .u64 (T:Int) 4294967295=some ((T%4294967296:Nat):Int):=qby T (by omega);have t8:qa1 .shr .u64 (T:Int) 32=some (.int .u64 ((T/4294967296:Nat):Int)):=shr64 T 32 (by omega);have⟨L,hL⟩:∃L,L=T%4294967296:=⟨_,rfl⟩
     have⟨C,hC⟩:∃C,C=T/4294967296:=⟨_,rfl⟩
     rw[<-hL]at t7 st;rw[<-hC]at t8 st m4 hcn;have t9:IntKind.u32.wrap (L:Int)=L:=qao _ (by omega);have g2:IntKind.i64.wrap ((i:Int)+k)=(j:Int):=by rw[wrap_i64]<;>omega
     have g3:IntKind.i64.wrap ((k:Int)+1)=((k+1:Nat):Int):=by rw[wrap_i64]<;>omega
     have hset:(l2.set j L).drop (i+(k+1))=l.drop (i+(k+1)):=by
      rw[List.drop_set_of_lt (by omega)];have:=congrArg (List.drop 1) hdr;rwa[List.drop_drop,List.drop_drop,hj]at this
     have gof:∃l3,H++[some ⟨1,(List.map u32 l2).set j (V.int IntKind.u32 L),true,true⟩]=H++[some ⟨1,l3.map u32,true,true⟩]/\l3.length=n/\Li l3/\l3.drop (i+(k+1))=l.drop (i+(k+1))/\natV l3+4294967296^(i+(k+1))*C=natV l+4294967296^i*(a[i]*natV (b.take (k+1))):=
      ⟨l2.set j L,by rw[qqu],by simp[hl2],Li.set ll2 (by omega),hset,by rw[show i+(k+1)=j+1 by omega,Nat.pow_succ];exact st⟩
     obtain⟨l3,y1,y2,y3,y4,y5⟩:=gof;have hcond:k<b.length\/(¬k<b.length/\0<c):=by omega
     have hkb2:k<b.length+1:=by omega
     rcases hcond with hcd|⟨hcd,hc0⟩
     ·simp[qe1,h0,h1,h6,h8,hcd,hlt,u32,t1];refine zq sb ?_;simp[h0,h1,h5,h6,h7,h8,hjn,hjl,u32,t3,t4,t5,t6,t7,t8,t9,g2,g3,lim];simp at y1;exact⟨by omega,l3,y1,y2,y3,C,m4,hcn,rfl,y4,y5⟩
     ·have hc0':(0:Int)<c:=by omega
      simp[qe1,h0,h1,h6,h7,h8,hcd,hc0,hlt,u32,t1];refine zq sb ?_;simp[h0,h1,h5,h6,h7,h8,hjn,hjl,u32,t3,t4,t5,t6,t7,t8,t9,g2,g3,lim];simp at y1;exact⟨by omega,l3,y1,y2,y3,C,m4,hcn,rfl,y4,y5⟩
    ·have hcd:¬k<b.length:=fun h=>hgo (.inl h)
     have hc0:c=0:=Classical.byContradiction fun h=>hgo (.inr h)
     subst hc0;rw[Nat.mul_zero,Nat.add_zero,qal (l:=b) (by omega)]at hv2;have hv3:natV l2=natV (a.take (i+1))*natV b:=by
      rw[hv2,hv,qam,qaw hlt,Nat.add_mul,Nat.mul_assoc]
     simp[qe1,h0,h1,h5,h6,h7,h8,hcd,g1,lim];exact⟨l2,rfl,hl2,ll2,hv3⟩
  ·have hin:i=a.length:=by omega
   subst hin;rw[qal (l:=a) (Nat.le_refl _)]at hv;simp only[lim]at h0;simp[qh5,h0,h5,h6];refine qaj (args:=[.ref H.length 1 0 l.length]) rfl (by simp[hl]) (qtd l) (qg6 l (by omega)) ?_;rw[qak ll,hv];simp[lim]
theorem qabj {x s:Nat}(hs:s<32)(hx:x<4294967296):x*2^s/4294967296<2^s/\x*2^s%4294967296%2^s=0/\x*2^s<2^64:=by
 have h2:2^s<=2^31:=Nat.pow_le_pow_right (by omega) (by omega);have hp:=Nat.two_pow_pos s;refine⟨?_,?_,?_⟩
 ·rw[Nat.div_lt_iff_lt_mul (by omega),Nat.mul_comm];exact Nat.mul_lt_mul_of_pos_left hx hp
 ·have e:4294967296=2^s*2^(32-s):=by rw[<-Nat.pow_add,show s+(32-s)=32 by omega]
  rw[e,Nat.mod_mul_right_mod,Nat.mul_mod_left]
 ·have:x*2^s<=4294967295*2^31:=Nat.mul_le_mul (by omega) h2;omega
theorem qyx (a:List Nat)(n:Nat)(ha:a.length<=500000)(la:Li a)(hn:n<=10000000):CQ prog q3b [lim a,.int .i64 n] (lim (qad (natV a*2^n))):=by
 refine qag rfl fun H=>?_
 simp;refine qaa rfl rfl rfl (qg6 a (by omega)) ?_;have hxl:=qfk a;rw[qak la]at hxl ⊢;have lx:=qaf (natV a);have vx:=(qac (natV a)).symm;generalize qad (natV a)=x at *
 rw[vx];have⟨q,hq'⟩:∃q,q=n/32:=⟨_,rfl⟩
 have⟨s,hs⟩:∃s,s=n%32:=⟨_,rfl⟩
 have q1:(n:Int)/32=q:=by omega
 have s1:(n:Int).tmod 32=s:=by rw[Int.tmod_eq_emod_of_nonneg (by omega)];omega
 have hs32:s<32:=by omega
 have e1:IntKind.i64.wrap (q:Int)=q:=by rw[wrap_i64]<;>omega
 have⟨N,hN⟩:∃N,N=q+x.length+1:=⟨_,rfl⟩
 have e2:IntKind.i64.wrap ((q:Int)+x.length)=(q:Int)+x.length:=by rw[wrap_i64]<;>omega
 have e3:IntKind.i64.wrap ((q:Int)+x.length+1)=(N:Int):=by rw[wrap_i64]<;>omega
 have f4:N*4<=281474976710656/\N<=9223372036854775807:=by omega
 have e:natV x*2^n=4294967296^q*(natV x*2^s):=by
  rw[show n=32*q+s by omega,Nat.pow_add,<-pow32,Nat.mul_left_comm]
 simp[lim,q1,e1,e2,e3,f4];refine WK_up (fun i E H'=>∃l,H'=H++[some ⟨1,l.map u32,true,true⟩]/\l.length=N/\Li l/\E 0=lim x/\E 1=.int .i64 n/\E 5=.ref H.length 1 0 N/\E 6=.int .i64 i /\
  dig l (q+i)<2^s/\l.drop (q+i+1)=List.replicate (N-(q+i+1)) 0/\natV (l.take (q+i+1))=4294967296^q*(natV (x.take i)*2^s)) x.length ?_ ?_
 ·refine⟨List.replicate N 0,by rw[qes],by simp,qfo,by simp[lim],by simp,by simp,by simp,?_,by simp,by simp[natV,List.take_replicate,qfg]⟩;have:dig (List.replicate N 0) (q+0)=0:=by simp only[dig,List.getElem?_replicate];split<;>rfl
  rw[this];exact Nat.two_pow_pos s
 ·rintro i E H' hi ⟨l,rfl,hl,ll,h0,h1,h5,h6,hd,hz,hv⟩;rcases Nat.lt_or_ge i x.length with hlt|hge
  ·simp only[lim]at h0;have g1:IntKind.i64.wrap ((i:Int)+1)=((i+1:Nat):Int):=by rw[wrap_i64]<;>omega
   have lxi:x[i]<4294967296:=lx _ (List.getElem_mem hlt);have⟨j,hj⟩:∃j,j=q+i:=⟨_,rfl⟩
   have⟨j1,hj1⟩:∃j1,j1=q+i+1:=⟨_,rfl⟩
   rw[<-hj1]at hv hz;rw[<-hj]at hd;have hjl:j<l.length:=by omega
   have hj1l:j1<l.length:=by omega
   have hjN:j<N:=by omega
   have hj1N:j1<N:=by omega
   have g2:IntKind.i64.wrap ((i:Int)+q)=(j:Int):=by rw[wrap_i64]<;>omega
   have g3:IntKind.i64.wrap ((j:Int)+1)=(j1:Int):=by rw[wrap_i64]<;>omega
   obtain⟨s1',s2',s3'⟩:=qabj hs32 lxi;have t1:IntKind.u64.wrap (x[i]:Int)=x[i]:=qah _ (by omega);have⟨P,hP⟩:∃P,P=x[i]*2^s:=⟨_,rfl⟩
   have t2:qa1 .shl .u64 (x[i]:Int) (s:Int)=some (.int .u64 (P:Int)):=by rw[shl64 _ _ (by omega) (by omega),hP]
   rw[<-hP]at s1' s2' s3';have t3:bitsI .and .u64 (P:Int) 4294967295=some ((P%4294967296:Nat):Int):=qby P s3';have t4:qa1 .shr .u64 (P:Int) 32=some (.int .u64 ((P/4294967296:Nat):Int)):=shr64 P 32 (by omega);have hPd:=Nat.div_add_mod P 4294967296;have hL2:P%4294967296<4294967296:=Nat.mod_lt _ (by omega);have⟨L,hL⟩:∃L,L=P%4294967296:=⟨_,rfl⟩
   have⟨C,hC⟩:∃C,C=P/4294967296:=⟨_,rfl⟩
   rw[<-hL]at t3 s2' hPd hL2;rw[<-hC]at t4 s1' hPd;have h2s:2^s<=2^31:=Nat.pow_le_pow_right (by omega) (by omega);have t5:IntKind.u32.wrap (L:Int)=L:=qao _ hL2;have t6:IntKind.u32.wrap (C:Int)=C:=qao _ (by omega);have hLd:L+dig l j<4294967296:=by
    have e5:4294967296=2^s*2^(32-s):=by rw[<-Nat.pow_add,show s+(32-s)=32 by omega]
    have e6:L=2^s*(L/2^s):=by have:=Nat.div_add_mod L (2^s);omega
    have e7:L/2^s<2^(32-s):=by
     rw[Nat.div_lt_iff_lt_mul (Nat.two_pow_pos s),Nat.mul_comm,<-e5];exact hL2
    have e8:2^s*(L/2^s+1)<=2^s*2^(32-s):=Nat.mul_le_mul_left _ e7;rw[<-e5,Nat.mul_add,<-e6]at e8;omega
   have t7:=(qt4 L (dig l j) s s2' hd (by omega) (by omega)).2;have⟨D,hD⟩:∃D,D=L+dig l j:=⟨_,rfl⟩
   rw[<-hD]at t7 hLd;have st:natV (((l.set j D).set j1 C).take (q+(i+1)+1))=4294967296^q*(natV (x.take (i+1))*2^s):=by
    rw[show q+(i+1)+1=j1+1 by omega,qbb (by simp;omega),show j1=j+1 by omega,qbb hjl,Nat.pow_succ];have e5:natV (l.take j)+4294967296^j*dig l j=4294967296^q*(natV (x.take i)*2^s):=by
     rw[<-qam,<-hv];congr 2;omega
    rw[qam,qaw hlt,Nat.add_mul,Nat.mul_add,<-e5,hD,Nat.mul_assoc (4294967296^i),<-hP,<-Nat.mul_assoc,<-Nat.pow_add,<-hj,<-hPd];have e6:4294967296^j*4294967296*C=4294967296^j*(4294967296*C):=Nat.mul_assoc ..;rw[e6,Nat.mul_add,Nat.mul_add];omega
   have st2:((l.set j D).set j1 C).drop (q+(i+1)+1)=List.replicate (N-(q+(i+1)+1)) 0:=by
    rw[List.drop_set_of_lt (by omega),List.drop_set_of_lt (by omega)];have:=congrArg (List.drop 1) hz;rw[List.drop_drop,List.drop_replicate]at this;rw[show q+(i+1)+1=j1+1 by omega,this];congr 1
   have st3:dig ((l.set j D).set j1 C) (q+(i+1))<2^s:=by
    rw[show q+(i+1)=j1 by omega,q3u (by simp;omega)];exact s1'
   have go:∃l3:List Nat,H++[some ⟨1,((List.map u32 l).set j (V.int IntKind.u32 D)).set j1 (V.int IntKind.u32 C),true,true⟩]=H++[some ⟨1,l3.map u32,true,true⟩]/\l3.length=N/\Li l3/\dig l3 (q+(i+1))<2^s/\l3.drop (q+(i+1)+1)=List.replicate (N-(q+(i+1)+1)) 0/\natV (l3.take (q+(i+1)+1))=4294967296^q*(natV (x.take (i+1))*2^s):=
    ⟨(l.set j D).set j1 C,by rw[qqu,qqu],by simp[hl],Li.set (Li.set ll hLd) (by omega),st3,st2,st⟩
   obtain⟨l3,y1,y2,y3,y4,y5,y6⟩:=go;rw[qaw hjl]at t7;clear st st2 st3;have hset:∀(v:V) (h:j1<((List.map u32 l).set j v).length),((List.map u32 l).set j v)[j1]=V.int IntKind.u32 (l[j1]:Nat):=by
    intro v h;rw[List.getElem_set_ne (by omega),List.getElem_map];rfl
   simp at y1;simp[qh4,h0,h1,h5,h6,hlt,u32,t1,t2,t3,t4,t5,t6,t7,s1,q1,e1,g1,g2,g3,hjN,hj1N,hjl,hj1l,hset,lim];exact⟨l3,y1,y2,y3,y4,y5,y6⟩
  ·have hin:i=x.length:=by omega
   subst hin;rw[qal (l:=x) (Nat.le_refl _),qal (l:=l) (by omega)]at hv;simp only[lim]at h0;simp[qh4,h0,h5,h6];refine qaj (args:=[.ref H.length 1 0 l.length]) rfl (by simp[hl]) (qtd l) (qg6 l (by omega)) ?_;rw[qak ll,hv,e];simp[lim]
theorem qanj (a:List Nat)(n:Nat)(ha:a.length<=500000)(la:Li a)(hn:n<=10000000):CQ prog q3a [lim a,.int .i64 n] (lim (qad (natV a/2^n))):=by
 refine qag rfl fun H=>?_
 have⟨q,hq'⟩:∃q,q=n/32:=⟨_,rfl⟩
 have⟨s,hs⟩:∃s,s=n%32:=⟨_,rfl⟩
 have q1:(n:Int)/32=q:=by omega
 have s1:(n:Int).tmod 32=s:=by rw[Int.tmod_eq_emod_of_nonneg (by omega)];omega
 have hs32:s<32:=by omega
 have e1:IntKind.i64.wrap (q:Int)=q:=by rw[wrap_i64]<;>omega
 have⟨x,hx⟩:∃x,x=a.drop q:=⟨_,rfl⟩
 have lx:Li x:=by rw[hx];exact la.drop _
 have hxl:x.length=a.length-q:=by rw[hx];simp
 have e:natV a/2^n=natV x/2^s:=by
  rw[hx,show n=32*q+s by omega,Nat.pow_add,<-pow32,<-Nat.div_div_eq_div_mul,qgy la]
 rw[e];simp[lim,q1,e1];refine WK_up (fun i E H'=>E 0=lim a/\E 1=.int .i64 n/\E 6=.int .i64 ((q+i:Nat):Int)/\∃o,Out H H' (E 5) 1 (o.map u32)/\o.length=i/\Li o/\natV o=natV x/2^s%4294967296^i) x.length ?_ ?_
 ·simp[lim];exact⟨[],.nil,rfl,by intro x hx;simp at hx,by simp[natV,Nat.mod_one]⟩
 ·rintro i E H' hi ⟨h0,h1,h6,o,h5,ho,lo,hv⟩;simp only[lim]at h0;have⟨j,hj⟩:∃j,j=q+i:=⟨_,rfl⟩
  have⟨j1,hj1⟩:∃j1,j1=q+(i+1):=⟨_,rfl⟩
  rw[<-hj]at h6;have g1:IntKind.i64.wrap ((j:Int)+1)=(j1:Int):=by rw[wrap_i64]<;>omega
  rcases Nat.lt_or_ge j a.length with h2|h2
  ·have d1:dig x i=dig a j:=by rw[hx,qk4,hj]
   have d2:dig x (i+1)=dig a j1:=by rw[hx,qk4,hj1]
   have da:=qbd la j;have db:=qbd la j1;have st:=q0e (M:=natV x) (s:=s) o ho hv;rw[qtf lx i s hs32,d1,d2]at st;have⟨T,hT⟩:∃T,T=dig a j+4294967296*dig a j1:=⟨_,rfl⟩
   have hT2:T<2^64:=by omega
   have f4:qa1 .shr .u64 (T:Int) (s:Int)=some (.int .u64 ((T/2^s:Nat):Int)):=shr64 T s (by omega);rw[<-hT]at st;have⟨Y,hY⟩:∃Y,Y=T/2^s:=⟨_,rfl⟩
   have hY2:Y<2^64:=by rw[hY];exact Nat.lt_of_le_of_lt (Nat.div_le_self _ _) hT2
   rw[<-hY]at f4 st;have f5:=qby Y hY2;have⟨L,hL⟩:∃L,L=Y%4294967296:=⟨_,rfl⟩
   rw[<-hL]at f5 st;have f6:IntKind.u32.wrap (L:Int)=L:=qao _ (by omega);obtain⟨v',H'',e',ho'⟩:=h5.one L (by omega);have t3:qa1 .shl .u64 (dig a j1:Int) 32=some (.int .u64 ((dig a j1*2^32:Nat):Int)):=shl64 _ 32 (by omega) (by omega);have⟨P,hP⟩:∃P,P=dig a j1*2^32:=⟨_,rfl⟩
   rw[<-hP]at t3;have t4:IntKind.u64.wrap ((dig a j:Int)+P)=(T:Int):=by rw[qax]<;>omega
   have go:∃o,Out H H'' v' 1 (List.map u32 o)/\o.length=i+1/\Li o/\natV o=natV x/2^s%4294967296^(i+1):=
    ⟨o++[L],ho',by simp;omega,lo.append (by intro y hy;simp at hy;omega),st⟩
   simp[qh3,h0,h6,h2];refine qaa rfl rfl rfl (qum a la j) ?_;simp[h0,h6,g1];refine qaa rfl rfl rfl (qum a la j1) ?_;simp[h0,h1,h6,g1,t3,t4,s1,f4,f5,f6,e',lim];exact⟨by omega,by omega,go⟩
  ·have h2':¬j<a.length:=by omega
   simp[qh3,h0,h6,h2'];obtain⟨H3,hp3,e3⟩:=h5.prep (g:=qev) rfl;refine qaj rfl rfl e3 (qg6 o (by omega)) ?_;have hv2:natV o=natV x/2^s:=by
    have:=qan lx;rw[hv,Nat.mod_eq_of_lt];rw[show i=x.length by omega];exact Nat.lt_of_le_of_lt (Nat.div_le_self _ _) this
   rw[qak lo,hv2];simp[qbo hp3,lim]
end Go.Abs.W
namespace Go.Abs.W
set_option maxHeartbeats 4000000
theorem qam0 {M N B b:Nat}(hB:0<B)(hM:M=2*N+b)(hb:b<=1) :
 (2*(N%B)+b<B->M%B=2*(N%B)+b/\M/B=2*(N/B))/\(B<=2*(N%B)+b->M%B=2*(N%B)+b-B/\M/B=2*(N/B)+1):=by
 have e:=Nat.div_add_mod N B;have hm:=Nat.mod_lt N hB;have⟨q,hq⟩:∃q,q=N/B:=⟨_,rfl⟩
 have⟨r,hr⟩:∃r,r=N%B:=⟨_,rfl⟩
 rw[<-hq,<-hr]at e;rw[<-hr]at hm;rw[<-hq,<-hr];constructor
 ·intro h;have e2:M=B*(2*q)+(2*r+b):=by rw[Nat.mul_left_comm];omega
  rw[e2];exact⟨by rw[Nat.mul_add_mod,Nat.mod_eq_of_lt h],by rw[Nat.mul_add_div hB,Nat.div_eq_of_lt h,Nat.add_zero]⟩
 ·intro h;have e2:M=B*(2*q+1)+(2*r+b-B):=by rw[Nat.mul_add,Nat.mul_left_comm];omega
  rw[e2];have h3:2*r+b-B<B:=by omega
  exact⟨by rw[Nat.mul_add_mod,Nat.mod_eq_of_lt h3],by rw[Nat.mul_add_div hB,Nat.div_eq_of_lt h3,Nat.add_zero]⟩
theorem qam1 {o:List Nat}{q t:Nat}(lo:Li o)(ht:t<=32)(h:natV o%2^(32*q+t)=0):dig o q%2^t=0:=by
 have e1:natV o/4294967296^q%2^t=0:=by
  rw[Nat.pow_add,<-pow32,Nat.mod_mul]at h;have hp:0<4294967296^q:=Nat.pow_pos (by omega);rcases Nat.eq_zero_or_pos (natV o/4294967296^q%2^t)with h0|h0
  ·exact h0
  ·have:=Nat.mul_pos hp h0;omega
 rw[qgy lo,qa2]at e1;have e2:4294967296=2^t*2^(32-t):=by rw[<-Nat.pow_add,show t+(32-t)=32 by omega]
 rw[e2,Nat.mul_assoc,Nat.add_mul_mod_self_left]at e1;exact e1
theorem qado (s:Nat)(hs:s<32):qa1 .shl .u32 1 (s:Int)=some (.int .u32 ((2^s:Nat):Int)):=by
 have e1:¬((s:Int)<0):=by omega
 have e2:Nat.min s 32=s:=Nat.min_eq_left (by omega);have e3:(1:Int)*2^s=((2^s:Nat):Int):=by simp
 have h:2^s<2^32:=Nat.pow_lt_pow_right (by omega) hs;simp only[qa1,if_neg e1,q3y,Int.toNat_natCast,e2,e3];rw[qao _ h]
theorem qadp (x:Nat):qa1 .shl .u32 (x:Int) 1=some (.int .u32 ((2*x%4294967296:Nat):Int)):=by
 have e3:(x:Int)*2^(Nat.min (Int.toNat 1) 32)=((2*x:Nat):Int):=by
  show(x:Int)*2^1=_;omega
 simp only[qa1,q3y];rw[if_neg (by omega),e3,qba]
theorem qajj {n0:Nat}{Q:AX->Env->Heap->Prop}{K:List Fr}{E:Env}{H:Heap}(r:List Nat)(n b:Nat)(X:Option Blk)(hr:r.length=n)(hn:n<=1000000)(lr:Li r)(hb:b<=1)
 (h7:E 7=.ref (H.length+1) 1 0 n) (h9:E 9=.int .u32 (b:Nat)) (h10:E 10=.int .i64 0)
 (hQ:∀E1 l c,l.length=n->Li l->natV l+4294967296^n*c=2*natV r+b->E1 0=E 0->E1 1=E 1->E1 6=E 6->E1 7=E 7->E1 8=E 8->WP prog n0 Q K (.exit 2) E1 (H++[X,some ⟨1,l.map u32,true,true⟩])) :
 WK prog n0 (.loop qc8) K E (H++[X,some ⟨1,r.map u32,true,true⟩]) Q:=by
 refine WK_up (fun k E' H'=>∃l c,H'=H++[X,some ⟨1,l.map u32,true,true⟩]/\l.length=n/\Li l/\c<=1/\E' 0=E 0/\E' 1=E 1/\E' 6=E 6/\E' 7=E 7/\E' 8=E 8/\E' 9=.int .u32 (c:Nat)/\E' 10=.int .i64 k/\l.drop k=r.drop k /\
  natV (l.take k)+4294967296^k*c=2*natV (r.take k)+b) n ?_ ?_
 ·exact⟨r,b,rfl,hr,lr,hb,rfl,rfl,rfl,rfl,rfl,h9,h10,rfl,by simp[natV]⟩
 ·rintro k E' H' hk ⟨l,c,rfl,hl,ll,hc,g0,g1,g6,g7,g8,g9,g10,hdr,hv⟩;rw[<-g7]at h7;rcases Nat.lt_or_ge k n with hlt|hge
  ·have hkl:k<l.length:=by omega
   have dl:=qbd ll k;have f1:IntKind.i64.wrap ((k:Int)+1)=((k+1:Nat):Int):=by rw[wrap_i64]<;>omega
   have hdk:dig r k=dig l k:=by
    have q1:dig l k=dig (l.drop k) 0:=by simp[dig]
    have q2:dig r k=dig (r.drop k) 0:=by simp[dig]
    rw[q1,q2,hdr]
   have st:=q1o (N:=natV (l.take k)) (X:=natV (r.take k)) (Y:=natV (r.take k)+b) (P:=4294967296^k) (x:=dig l k) (y:=dig l k) (c:=c) (by omega);rw[<-qbb hkl,<-Nat.pow_succ]at st;have st2:natV ((l.set k ((dig l k+dig l k+c)%4294967296)).take (k+1))+4294967296^(k+1)*((dig l k+dig l k+c)/4294967296)=2*natV (r.take (k+1))+b:=by
    rw[st,qam,hdk];omega
   have hset:∀z,(l.set k z).drop (k+1)=r.drop (k+1):=by
    intro z;rw[List.drop_set_of_lt (by omega)];have:=congrArg (List.drop 1) hdr;rwa[List.drop_drop,List.drop_drop]at this
   rw[qaw hkl]at dl st2;have t1:=qadp l[k];have t2:=(qt4 (2*l[k]%4294967296) c 1 (by omega) (by omega) (by omega) (by omega)).1;have t3:qa1 .shr .u32 (l[k]:Int) 31=some (.int .u32 ((l[k]/2147483648:Nat):Int)):=shr32 l[k] 31 (by omega);have e1:(l[k]+l[k]+c)%4294967296=2*l[k]%4294967296+c:=by omega
   have e2:(l[k]+l[k]+c)/4294967296=l[k]/2147483648:=by omega
   have hL:2*l[k]%4294967296+c<4294967296:=by omega
   rw[e1,e2]at st2;have⟨W,hW⟩:∃W,W=2*l[k]%4294967296:=⟨_,rfl⟩
   rw[<-hW]at t1 t2 st2 hL;have⟨L,hLd⟩:∃L,L=W+c:=⟨_,rfl⟩
   rw[<-hLd]at t2 st2 hL;have⟨C,hC⟩:∃C,C=l[k]/2147483648:=⟨_,rfl⟩
   rw[<-hC]at t3 st2;simp[qc8,h7,g9,g10,hlt,hkl,u32,t1,t2,t3,f1];exact⟨l.set k L,by simp[u32],by simp[hl],Li.set ll hL,C,by omega,g0,g1,g6,by rw[<-g7,h7],g8,rfl,hset L,st2⟩
  ·have hkn:k=n:=by omega
   subst hkn;rw[qal (l:=l) (by omega),qal (l:=r) (by omega)]at hv;simp[qc8,h7,g10];exact hQ _ l c hl ll hv (by simp[g0]) (by simp[g1]) (by simp[g6]) (by simp[g7]) (by simp[g8])
theorem qaji {n0:Nat}{Q:AX->Env->Heap->Prop}{K:List Fr}{E:Env}{H:Heap}(r y:List Nat)(n:Nat)(X:Option Blk)(hr:r.length=n)(hn:n<=1000000)(lr:Li r)(ly:Li y)
 (h1:E 1=lim y) (h7:E 7=.ref (H.length+1) 1 0 n) (h12:E 12=.int .u64 0) (h13:E 13=.int .i64 0)
 (hQ:∀E1 l c,l.length=n->Li l->c<=1->natV l+natV (y.take n)=natV r+4294967296^n*c->E1 0=E 0->E1 1=E 1->E1 6=E 6->E1 7=E 7->E1 8=E 8->WP prog n0 Q K (.exit 4) E1 (H++[X,some ⟨1,l.map u32,true,true⟩])) :
 WK prog n0 (.loop qc7) K E (H++[X,some ⟨1,r.map u32,true,true⟩]) Q:=by
 refine WK_up (fun k E' H'=>∃l c,H'=H++[X,some ⟨1,l.map u32,true,true⟩]/\l.length=n/\Li l/\c<=1/\E' 0=E 0/\E' 1=E 1/\E' 6=E 6/\E' 7=E 7/\E' 8=E 8/\E' 12=.int .u64 (c:Nat)/\E' 13=.int .i64 k/\l.drop k=r.drop k /\
  natV (l.take k)+natV (y.take k)=natV (r.take k)+4294967296^k*c) n ?_ ?_
 ·exact⟨r,0,rfl,hr,lr,by omega,rfl,rfl,rfl,rfl,rfl,h12,h13,rfl,by simp[natV]⟩
 ·rintro k E' H' hk ⟨l,c,rfl,hl,ll,hc,g0,g1,g6,g7,g8,g12,g13,hdr,hv⟩;rw[<-g7]at h7;rw[<-g1]at h1;rcases Nat.lt_or_ge k n with hlt|hge
  ·have hkl:k<l.length:=by omega
   have dl:=qbd ll k;have dy:=qbd ly k;have sy:=qum y ly k;have f1:IntKind.i64.wrap ((k:Int)+1)=((k+1:Nat):Int):=by rw[wrap_i64]<;>omega
   have hdk:dig r k=dig l k:=by
    have q1:dig l k=dig (l.drop k) 0:=by simp[dig]
    have q2:dig r k=dig (r.drop k) 0:=by simp[dig]
    rw[q1,q2,hdr]
   have⟨T,hT⟩:∃T,T=dig l k+4294967296-(c+dig y k):=⟨_,rfl⟩
   have st:natV ((l.set k (T%4294967296)).take (k+1))+natV (y.take (k+1))=natV (r.take (k+1))+4294967296^(k+1)*(1-T/4294967296):=by
    rw[qbb hkl,qam,qam,hdk,Nat.pow_succ,Nat.mul_assoc];have:4294967296^k*(T%4294967296)+4294967296^k*(c+dig y k)=4294967296^k*dig l k+4294967296^k*(4294967296*(1-T/4294967296)):=by
     rw[<-Nat.mul_add,<-Nat.mul_add]
     congr 1;omega
    rw[Nat.mul_add]at this;omega
   have hset:∀z,(l.set k z).drop (k+1)=r.drop (k+1):=by
    intro z;rw[List.drop_set_of_lt (by omega)];have:=congrArg (List.drop 1) hdr;rwa[List.drop_drop,List.drop_drop]at this
   rw[qaw hkl]at dl hT;have f6:bitsI .and .u64 (T:Int) 4294967295=some ((T%4294967296:Nat):Int):=qby T (by omega);have f7:qa1 .shr .u64 (T:Int) 32=some (.int .u64 ((T/4294967296:Nat):Int)):=shr64 T 32 (by omega);have hC1:T/4294967296<=1:=by omega
   have⟨L,hL⟩:∃L,L=T%4294967296:=⟨_,rfl⟩
   have⟨C,hC⟩:∃C,C=T/4294967296:=⟨_,rfl⟩
   rw[<-hL]at f6 st;rw[<-hC]at f7 st hC1;have f8:IntKind.u32.wrap (L:Int)=L:=qao _ (by omega);have f9:IntKind.u64.wrap (1-(C:Int))=((1-C:Nat):Int):=by rw[qax]<;>omega
   have⟨D,hD⟩:∃D,D=1-C:=⟨_,rfl⟩
   rw[<-hD]at f9 st;have t1:IntKind.u64.wrap (l[k]:Int)=l[k]:=qah _ (by omega);have t2:IntKind.u64.wrap ((l[k]:Int)+4294967296)=(l[k]:Int)+4294967296:=by rw[qax]<;>omega
   have t3:IntKind.u64.wrap ((l[k]:Int)+4294967296-dig y k)=(l[k]:Int)+4294967296-dig y k:=by rw[qax]<;>omega
   have t4:IntKind.u64.wrap ((l[k]:Int)+4294967296-dig y k-c)=T:=by rw[qax]<;>omega
   simp[qc7,h1,h7,g13,hlt,hkl,u32,t1,t2];refine zq sy ?_;simp[h1,h7,g12,g13,hlt,hkl,u32,t3,t4,f6,f7,f8,f9,f1];exact⟨l.set k L,by simp[u32],by simp[hl],Li.set ll (by omega),D,by omega,g0,by rw[<-g1,h1],g6,by rw[<-g7,h7],g8,rfl,hset L,st⟩
  ·have hkn:k=n:=by omega
   subst hkn;rw[qal (l:=l) (by omega),qal (l:=r) (by omega)]at hv;simp[qc7,h7,g13];exact hQ _ l c hl ll hc hv (by simp[g0]) (by simp[g1]) (by simp[g6]) (by simp[g7]) (by simp[g8])
end Go.Abs.W
namespace Go.Abs.W
set_option maxHeartbeats 4000000
structure DmInv (A B:Nat)(o r:List Nat)(la n k:Nat):Prop where
 lo:o.length=la
 lr:r.length=n
 Lo:Li o
 Lr:Li r
 vr:natV r=A/2^k%B
 vo:natV o=A/2^k/B*2^k
theorem q4j (Z j:Nat):Z*2^(j+1)=2*Z*2^j:=by rw[Nat.pow_succ,Nat.mul_comm (2^j),<-Nat.mul_assoc,Nat.mul_comm Z]
theorem qai5 {A j:Nat}:A/2^j=2*(A/2^(j+1))+A/2^j%2:=by
 rw[Nat.pow_succ,<-Nat.div_div_eq_div_mul];omega
theorem qacn (a b:List Nat)(ha:a.length<=500000)(hb:b.length<=500000)(la:Li a)(lb:Li b)(h0:0<natV b):CQ prog qva [lim a,lim b] (.tup [lim (qad (natV a/natV b)),lim (qad (natV a%natV b))]):=by
 refine qag rfl fun H=>?_
 simp;refine qaa rfl rfl rfl (qg6 b (by omega)) ?_;have hyl:=qfk b;rw[qak lb]at hyl ⊢;have ly:=qaf (natV b);have vy:=(qac (natV b)).symm;generalize qad (natV b)=y at *
 have⟨n,hn⟩:∃n,n=y.length+1:=⟨_,rfl⟩
 have e1:IntKind.i64.wrap ((y.length:Int)+1)=(n:Int):=by rw[wrap_i64]<;>omega
 have f4:n*4<=281474976710656/\n<=9223372036854775807:=by omega
 have f5:a.length*4<=281474976710656/\a.length<=9223372036854775807:=by omega
 have hB:=qan ly;simp[e1,f4,f5,lim];refine qaa rfl rfl rfl (qlb a (by omega) la) ?_;have hA:=qan la;rw[pow32]at hA;have hbit:=qa0 hA;have e2:IntKind.i64.wrap ((bitL (natV a):Int)-1)=(bitL (natV a):Int)-1:=by rw[wrap_i64]<;>omega
 simp[e2];refine qb1 (fun k E H'=>k<=bitL (natV a)/\∃o r,H'=H++[some ⟨1,o.map u32,true,true⟩,some ⟨1,r.map u32,true,true⟩]/\DmInv (natV a) (natV b) o r a.length n k /\
  E 0=lim a/\E 1=lim y/\E 6=.ref H.length 1 0 a.length/\E 7=.ref (H.length+1) 1 0 n/\E 8=.int .i64 ((k:Int)-1)) (bitL (natV a)) ?_ ?_
 ·refine⟨Nat.le_refl _,List.replicate a.length 0,List.replicate n 0,by rw[qes,qes],⟨by simp,by simp,qfo,qfo,?_,?_⟩,by simp[lim],by simp[lim],by simp,by simp,by simp⟩
  ·rw[Nat.div_eq_of_lt (qbe _)];simp[qfg]
  ·rw[Nat.div_eq_of_lt (qbe _)];simp[qfg]
 ·rintro k E H' ⟨hk,o,r,rfl,inv,h0',h1,h6,h7,h8⟩;simp only[lim]at h0';refine qaq ?_;have hol:=inv.lo;have hrl:=inv.lr;rcases k with _|j
  ·have hvo:=inv.vo;have hvr:=inv.vr;rw[Nat.pow_zero,Nat.div_one]at hvo hvr;rw[Nat.mul_one]at hvo;simp[qfa,h6,h8];refine qaj (args:=[.ref H.length 1 0 o.length]) rfl (by simp[hol]) (qtd o) (qg6 o (by omega)) ?_;simp[h7];refine qaj (args:=[.ref (H.length+1) 1 0 r.length]) (vs:=[lim r]) (H1:=H++[some ⟨1,o.map u32,true,false⟩,some ⟨1,r.map u32,true,false⟩]) rfl (by simp[hrl]) (by refine Eq.trans (b:=frzVs _ _) rfl ?_;simp[frzVs,frzV,qbj,lim,List.take_of_length_le]) (qg6 r (by omega)) ?_;rw[qak inv.Lo,qak inv.Lr,hvo,hvr];simp[lim]
  ·have e3:(j+1:Int)-1=j:=by omega
   simp only[Int.natCast_add,Int.natCast_one,e3]at h8;have p1:(0:Int)<=j:=by omega
   have⟨q,hq⟩:∃q,q=j/32:=⟨_,rfl⟩
   have⟨s,hs⟩:∃s,s=j%32:=⟨_,rfl⟩
   have q1:(j:Int)/32=q:=by omega
   have s1:(j:Int).tmod 32=s:=by rw[Int.tmod_eq_emod_of_nonneg (by omega)];omega
   have w1:IntKind.i64.wrap (q:Int)=q:=by rw[wrap_i64]<;>omega
   have w2:IntKind.i64.wrap ((j:Int)-1)=(j:Int)-1:=by rw[wrap_i64]<;>omega
   have hs32:s<32:=by omega
   have hqa:q<a.length:=by omega
   have hb1:=qak8 la j;have lq:a[q]<4294967296:=la _ (List.getElem_mem hqa);rw[<-hq,<-hs,qaw hqa]at hb1;have t1:qa1 .shr .u32 (a[q]:Int) (s:Int)=some (.int .u32 ((a[q]/2^s:Nat):Int)):=shr32 _ _ hs32;have⟨z,hz⟩:∃z,z=a[q]/2^s:=⟨_,rfl⟩
   have hz2:z<2^32:=by rw[hz];exact Nat.lt_of_le_of_lt (Nat.div_le_self _ _) lq
   rw[<-hz]at t1 hb1;have t2:=qr3 z hz2;have⟨β,hβ⟩:∃β,β=z%2:=⟨_,rfl⟩
   have hβ1:β<=1:=by omega
   rw[<-hβ]at t2 hb1;have hh:=qai5 (A:=natV a) (j:=j);rw[hb1]at hh;have hstep:=qam0 h0 hh hβ1;have hvr:=inv.vr;have hvo:=inv.vo;have hRlt:natV a/2^(j+1)%natV b<natV b:=Nat.mod_lt _ h0;rw[<-hvr]at hstep hRlt;simp[qfa,h0',h8,p1,q1,s1,w1,hqa,u32,t1,t2];refine qajj r n β _ hrl (by omega) inv.Lr hβ1 (by simp[h7]) (by simp) (by simp) ?_;intro E1 l c hl ll hv g0 g1 g6 g7 g8;simp[h0']at g0;simp[h1]at g1;simp[h6]at g6;simp[h7]at g7;simp[h8]at g8;have hv1:natV l=2*natV r+β:=by
    have h9:4294967296^n=4294967296^y.length*4294967296:=by rw[hn];exact Nat.pow_succ ..
    rw[<-vy]at hB;rcases Nat.eq_zero_or_pos c with h|h
    ·rw[h,Nat.mul_zero,Nat.add_zero]at hv;exact hv
    ·exfalso;have h10:4294967296^n*1<=4294967296^n*c:=Nat.mul_le_mul_left _ h;rw[Nat.mul_one,h9]at h10;rw[h9]at hv;generalize 4294967296^y.length*4294967296*c=Z at *
     omega
   have sl:Sees (.ref (H.length+1) 1 0 n) l (H++[some ⟨1,o.map u32,true,true⟩,some ⟨1,l.map u32,true,true⟩]):=.inr ⟨H.length+1,true,by rw[hl],by simp⟩;simp[g1,g7];refine WL_ev rfl rfl rfl (qamm sl (.lim (l:=y)) ll ly (by omega) (by omega)) ?_;rw[hv1,<-vy];have hle:2*natV r+β<natV b\/natV b<=2*natV r+β:=by omega
   rcases hle with hlt|hge
   ·obtain⟨m1,m2⟩:=hstep.1 hlt;have inv2:DmInv (natV a) (natV b) o l a.length n j:=⟨hol,hl,inv.Lo,ll,by rw[hv1,m1],by rw[hvo,m2,q4j]⟩
    simp[hlt,g0,g1,g6,g7,g8,w2];exact⟨j,by omega,by omega,o,l,⟨rfl,rfl⟩,inv2,by simp[lim],rfl⟩
   ·have hge':¬(2*natV r+β<natV b):=by omega
    obtain⟨m1,m2⟩:=hstep.2 hge;simp[hge'];refine qaji l y n _ hl (by omega) ll ly (by simp[g1]) (by simp[g7]) (by simp) (by simp) ?_;intro E2 l2 c2 hl2 ll2 hc2 hv2 k0 k1 k6 k7 k8;simp[g0]at k0;simp[g1]at k1;simp[g6]at k6;simp[g7]at k7;simp[g8]at k8;rw[qal (l:=y) (by omega),<-vy,hv1]at hv2;have hl2lt:=qan ll2;rw[hl2]at hl2lt;have hv3:natV l2=2*natV r+β-natV b:=by
     rcases Nat.eq_zero_or_pos c2 with h|h
     ·rw[h,Nat.mul_zero,Nat.add_zero]at hv2;omega
     ·have:c2=1:=by omega
      rw[this,Nat.mul_one]at hv2;omega
    have hqo:q<o.length:=by omega
    have hom:natV o%2^(32*q+(s+1))=0:=by
     rw[hvo,show 32*q+(s+1)=j+1 by omega,Nat.mul_mod_left]
    have hdm:=qam1 inv.Lo (show s+1<=32 by omega) hom;have hdo:=qbd inv.Lo q;have h2s:2^s<2^32:=Nat.pow_lt_pow_right (by omega) hs32;have h2s1:2^s<2^(s+1):=Nat.pow_lt_pow_right (by omega) (by omega);have t3:=(qt4 (dig o q) (2^s) (s+1) hdm h2s1 (by omega) h2s).1;have t4:=qado s hs32;have hsum:dig o q+2^s<4294967296:=by
     have e5:4294967296=2^(s+1)*2^(31-s):=by rw[<-Nat.pow_add,show s+1+(31-s)=32 by omega]
     have e6:dig o q=2^(s+1)*(dig o q/2^(s+1)):=by have:=Nat.div_add_mod (dig o q) (2^(s+1));omega
     have e7:dig o q/2^(s+1)<2^(31-s):=by
      rw[Nat.div_lt_iff_lt_mul (Nat.two_pow_pos _),Nat.mul_comm,<-e5];exact hdo
     have e8:2^(s+1)*(dig o q/2^(s+1)+1)<=2^(s+1)*2^(31-s):=Nat.mul_le_mul_left _ e7;rw[<-e5,Nat.mul_add,<-e6]at e8;omega
    have hvo2:natV (o.set q (dig o q+2^s))=natV o+2^j:=by
     have:=qqs (v:=dig o q+2^s) hqo;rw[Nat.mul_add,pow32,<-Nat.pow_add,show 32*q+s=j by omega]at this;omega
    have inv2:DmInv (natV a) (natV b) (o.set q (dig o q+2^s)) l2 a.length n j:=by
     refine⟨by simp[hol],hl2,Li.set inv.Lo hsum,ll2,by rw[hv3,m1],?_⟩;rw[hvo2,hvo,m2,Nat.add_mul,Nat.one_mul,q4j]
    rw[qaw hqo]at t3 inv2;have⟨P,hP⟩:∃P,P=2^s:=⟨_,rfl⟩
    rw[<-hP]at t3 t4 inv2;have⟨D,hD⟩:∃D,D=o[q]+P:=⟨_,rfl⟩
    rw[<-hD]at t3 inv2;have hqa2:q<a.length:=hqa;simp[k0,k1,k6,k7,k8,q1,s1,w1,w2,hqa,hol,u32,t3,t4];exact⟨j,by omega,by omega,o.set q D,l2,⟨by simp[u32],by simp⟩,inv2,by simp[lim],rfl⟩
theorem qadi {a r P:Nat}(_h1:r*r<=a)(h2:a<(r+2*P)*(r+2*P)) :
 ((r+P)*(r+P)<=a->a<(r+P+P)*(r+P+P))/\(¬(r+P)*(r+P)<=a->a<(r+P)*(r+P)):=by
 refine⟨fun _=>?_,fun h=>by omega⟩;rw[show r+P+P=r+2*P by omega];exact h2
theorem qaj1 (a:List Nat)(ha:a.length<=1000)(la:Li a):CQ prog qzx [lim a] (lim (qad (isq (natV a)))):=by
 refine qag rfl fun H=>?_
 simp;refine qaa rfl rfl rfl (qlb a (by omega) la) ?_;have hA:=qan la;rw[pow32]at hA;have hbit:=qa0 hA;have hlt:=qbe (natV a);have⟨b,hb⟩:∃b,b=bitL (natV a):=⟨_,rfl⟩
 rw[<-hb]at hbit hlt ⊢;have⟨k0,hk0⟩:∃k0,k0=(b+1)/2:=⟨_,rfl⟩
 have e1:IntKind.i64.wrap ((b:Int)+1)=(b:Int)+1:=by rw[wrap_i64]<;>omega
 have e2:((b:Int)+1)/2=k0:=by omega
 have e2':((b:Int)+1).tdiv 2=k0:=by rw[Int.tdiv_eq_ediv_of_nonneg (by omega)];exact e2
 have e3:IntKind.i64.wrap (k0:Int)=k0:=by rw[wrap_i64]<;>omega
 have hstart:natV a<(0+2^(k0+1))*(0+2^(k0+1)):=by
  rw[Nat.zero_add,<-Nat.pow_add];exact Nat.lt_of_lt_of_le hlt (Nat.pow_le_pow_right (by omega) (by omega))
 have l1:Li [1]:=by intro x hx;simp at hx;omega
 have v1:natV [1]=1:=rfl;simp[e1,e2',e3];refine qb1 (fun k E H'=>H <+: H'/\k<=k0+1/\∃r,r<2^(k0+1)/\r*r<=natV a/\natV a<(r+2^k)*(r+2^k)/\(E 3=lim (qad r)\/(r=0/\E 3=.nil))/\E 0=lim a/\E 4=.int .i64 ((k:Int)-1)) (k0+1) ?_ ?_
 ·exact⟨by simp,Nat.le_refl _,0,Nat.two_pow_pos _,by simp,hstart,.inr ⟨rfl,by simp⟩,by simp,by simp⟩
 ·rintro k E H' ⟨hH,hk,r,hr,hr1,hr2,h3,h0,h4⟩;refine qaq ?_;rcases k with _|j
  ·have hf:isq (natV a)=r:=qabt hr1 (by simpa using hr2);rw[hf];rcases h3 with h3|⟨rfl,h3⟩
   ·simp[qeh,h3,h4,qbo hH]
   ·simp[qeh,h3,h4,qbo hH,qa8,lim]
  ·have e4:(j+1:Int)-1=j:=by omega
   simp only[Int.natCast_add,Int.natCast_one,e4]at h4;have p1:(0:Int)<=j:=by omega
   have w2:IntKind.i64.wrap ((j:Int)-1)=(j:Int)-1:=by rw[wrap_i64]<;>omega
   have⟨P,hP⟩:∃P,P=2^j:=⟨_,rfl⟩
   have hP2:2^(j+1)=2*P:=by rw[hP,Nat.pow_succ,Nat.mul_comm]
   rw[hP2]at hr2;have hst:=qadi hr1 hr2;have hPle:P<=2^k0:=by rw[hP];exact Nat.pow_le_pow_right (by omega) (by omega)
   have hk1:2^(k0+1)=2^k0*2:=Nat.pow_succ ..;have hk2:2^(k0+2)=2^k0*4:=by rw[Nat.pow_add]
   have lr:(qad r).length<=1000:=qb9 (B:=k0+1) hr (by omega);have lP:(qad P).length<=1000:=qb9 (B:=k0+1) (by omega) (by omega);have lN:(qad (r+P)).length<=1000:=qb9 (B:=k0+2) (by omega) (by omega);have lNN:(qad ((r+P)*(r+P))).length<=2000:=by
    refine qb9 (B:=(k0+2)+(k0+2)) ?_ (by omega);rw[Nat.pow_add];exact Nat.mul_lt_mul'' (by omega) (by omega)
   have sc:=qyx [1] j (by simp) l1 (by omega);rw[v1,Nat.one_mul,<-hP]at sc;have ac:=qahs (qad r) (qad P) (by omega) (by omega) (qaf _) (qaf _);rw[qac,qac]at ac;have mc:=qahk (qad (r+P)) (qad (r+P)) (by omega) (by omega) (qaf _) (qaf _);rw[qac]at mc;have cc:=q85 (qad ((r+P)*(r+P))) a (qaf _) la (by omega) (by omega);rw[qac]at cc;have pr:∀Hh:Heap,prep prog qsw Hh [E 3,lim (qad P)]=some ([lim (qad r),lim (qad P)],Hh):=by
    intro Hh;refine Eq.trans (b:=frzVs _ _) rfl ?_;rcases h3 with h3|⟨rfl,h3⟩
    ·rw[h3];simp
    ·rw[h3];simp[qa8,lim,frzVs,frzV]
   simp[qeh,h4,p1];refine qaj (args:=[.ref H'.length 1 0 1,.int .i64 j]) (vs:=[lim [1],.int .i64 j]) (H1:=H'++[some ⟨1,[.int .u32 1],true,false⟩]) rfl (by simp) (by refine Eq.trans (b:=frzVs _ _) rfl ?_;simp[frzVs,frzV,qbj,lim,u32]) sc ?_;simp;refine qaj (args:=[E 3,lim (qad P)]) rfl (by simp) (pr _) ac ?_;simp;refine zq mc ?_;simp[h0];refine WL_ev (vs:=[lim (qad ((r+P)*(r+P))),lim a]) rfl rfl rfl (cc _) ?_;have w3:((j:Int)-1)=((j:Int)-1):=rfl;by_cases hle:(r+P)*(r+P)<=natV a
   ·simp[qagi,hle,h4,w2];refine⟨j,by omega,qdk hH,by omega,r+P,?_,hle,?_,.inl (by simp),h0,rfl⟩
    ·have h9:(r+P)*(r+P)<2^(k0+1)*2^(k0+1):=by
      have:=hstart;rw[Nat.zero_add]at this;omega
     rcases Nat.lt_or_ge (r+P) (2^(k0+1))with h|h
     ·exact h
     ·have:=Nat.mul_le_mul h h;omega
    ·rw[<-hP];exact hst.1 hle
   ·simp[qagi,hle,h4,w2];refine⟨j,by omega,qdk hH,by omega,r,hr,hr1,by rw[<-hP];exact hst.2 hle,h3,h0,rfl⟩
end Go.Abs.W
namespace Go.Abs.W
theorem q7j {H T:Heap}(l:List Nat):prep prog qdi (H++some ⟨1,l.map u32,true,true⟩ :: T) [.ref H.length 1 0 l.length]=some ([lim l],H++some ⟨1,l.map u32,true,false⟩ :: T):=by
 refine Eq.trans (b:=frzVs _ _) rfl ?_;simp[frzVs,frzV,qbj,lim,List.take_of_length_le]
set_option maxHeartbeats 4000000 in
theorem qahy (a b:List Nat)(ha:a.length<=500000)(hb:b.length<=500000)(la:Li a)(lb:Li b):CQ prog qxr [lim a,lim b] (lim (qad (natV a*natV b))):=by
 refine qag rfl fun H=>?_
 have⟨n,hn⟩:∃n,n=a.length+b.length+1:=⟨_,rfl⟩
 have f0:IntKind.i64.wrap ((a.length:Int)+b.length)=(a.length:Int)+b.length:=by rw[wrap_i64]<;>omega
 have f1:IntKind.i64.wrap ((a.length:Int)+b.length+1)=(n:Int):=by rw[wrap_i64]<;>omega
 have f4:n*4<=281474976710656/\n<=9223372036854775807:=by omega
 simp[lim,f0,f1,f4];refine WK_up (fun i E H'=>∃l,H'=H++[some ⟨1,l.map u32,true,true⟩]/\l.length=n/\Li l/\E 0=lim a/\E 1=lim b/\E 5=.ref H.length 1 0 n/\E 6=.int .i64 i/\natV l=natV (a.take i)*natV b) a.length ?_ ?_
 ·exact⟨List.replicate n 0,by rw[qes],by simp,qfo,by simp[lim],by simp[lim],by simp,by simp,by simp[natV,qfg]⟩
 ·rintro i E H' hi ⟨l,rfl,hl,ll,h0,h1,h5,h6,hv⟩;rcases Nat.lt_or_ge i a.length with hlt|hge
  ·simp only[lim]at h0 h1;have g1:IntKind.i64.wrap ((i:Int)+1)=((i+1:Nat):Int):=by rw[wrap_i64]<;>omega
   have lx:=la _ (List.getElem_mem hlt);have hz:dig l (i+b.length)=0:=by
    refine qsh ll ?_;rw[hv,Nat.pow_add];have h8:=qan (la.take i);have h9:=qan lb;rw[List.length_take,Nat.min_eq_left hi]at h8;rcases Nat.eq_zero_or_pos (natV b)with h|h
    ·rw[h,Nat.mul_zero];exact Nat.mul_pos (Nat.pow_pos (by omega)) (Nat.pow_pos (by omega))
    ·exact Nat.mul_lt_mul'' h8 h9
   simp[qf3,h0,h6,hlt];refine WK_up (fun k E H'=>∃l2 c,H'=H++[some ⟨1,l2.map u32,true,true⟩]/\l2.length=n/\Li l2/\c<4294967296/\E 0=lim a/\E 1=lim b/\E 5=.ref H.length 1 0 n/\E 6=.int .i64 i/\E 7=.int .u64 (c:Nat)/\E 8=.int .i64 k /\
    l2.drop (i+k)=l.drop (i+k)/\natV l2+4294967296^(i+k)*c=natV l+4294967296^i*(a[i]*natV (b.take k))) b.length ?_ ?_
   ·exact⟨l,0,by simp,hl,ll,by omega,by simp[h0,lim],by simp[h1,lim],by simp[h5],by simp[h6],by simp,by simp,rfl,by simp[natV]⟩
   ·clear h0 h1 h5 h6;rintro k E H' hk ⟨l2,c,rfl,hl2,ll2,hc,h0,h1,h5,h6,h7,h8,hdr,hv2⟩;simp only[lim]at h0 h1;have hdk:dig l2 (i+k)=dig l (i+k):=by
     have q1:dig l2 (i+k)=dig (l2.drop (i+k)) 0:=by simp[dig]
     have q2:dig l (i+k)=dig (l.drop (i+k)) 0:=by simp[dig]
     rw[q1,q2,hdr]
    have⟨j,hj⟩:∃j,j=i+k:=⟨_,rfl⟩
    rw[<-hj]at hdk hdr hv2;have hjn:j<n:=by omega
    have hjl:j<l2.length:=by omega
    have dl:=qbd ll2 j;have g2:IntKind.i64.wrap ((i:Int)+k)=(j:Int):=by rw[wrap_i64]<;>omega
    rcases Nat.lt_or_ge k b.length with hlb|hgb
    ·have db:=qbd lb k;have⟨T,hT⟩:∃T,T=a[i]*dig b k+dig l2 j+c:=⟨_,rfl⟩
     obtain⟨m1,m2,m3,m4⟩:=q17 lx db dl hc;rw[<-hT]at m1 m4;have e1:4294967296^i*(a[i]*natV (b.take k))+4294967296^j*(a[i]*dig b k)=4294967296^i*(a[i]*natV (b.take (k+1))):=by
      rw[qam,hj,Nat.pow_add,Nat.mul_assoc,<-Nat.mul_add,Nat.mul_left_comm (4294967296^k),<-Nat.mul_add]
     have st:=q1v hv2 (qqs (v:=T%4294967296) hjl) hT;rw[e1]at st;have⟨M,hM⟩:∃M,M=a[i]*dig b k:=⟨_,rfl⟩
     rw[<-hM]at hT m2 m3;rw[qaw hjl]at dl hT m3;rw[qaw hlb]at db hM;have t1:IntKind.u64.wrap (a[i]:Int)=a[i]:=qah _ (by omega);have t2:IntKind.u64.wrap (b[k]:Int)=b[k]:=qah _ (by omega);have t3:IntKind.u64.wrap ((a[i]:Int)*b[k])=M:=by
      rw[show(a[i]:Int)*b[k]=((M:Nat):Int) by rw[hM];simp];exact qah _ m2
     have t4:IntKind.u64.wrap (l2[j]:Int)=l2[j]:=qah _ (by omega);have t5:IntKind.u64.wrap ((M:Int)+l2[j])=(M:Int)+l2[j]:=by rw[qax]<;>omega
     have t6:IntKind.u64.wrap ((M:Int)+l2[j]+c)=T:=by rw[qax]<;>omega
     have t7:bitsI .and .u64 (T:Int) 4294967295=some ((T%4294967296:Nat):Int):=qby T (by omega);have t8:qa1 .shr .u64 (T:Int) 32=some (.int .u64 ((T/4294967296:Nat):Int)):=shr64 T 32 (by omega);have⟨L,hL⟩:∃L,L=T%4294967296:=⟨_,rfl⟩
     have⟨C,hC⟩:∃C,C=T/4294967296:=⟨_,rfl⟩
     rw[<-hL]at t7 st;rw[<-hC]at t8 st m4;have t9:IntKind.u32.wrap (L:Int)=L:=qao _ (by omega);have g3:IntKind.i64.wrap ((k:Int)+1)=((k+1:Nat):Int):=by rw[wrap_i64]<;>omega
     have hset:(l2.set j L).drop (i+(k+1))=l.drop (i+(k+1)):=by
      rw[List.drop_set_of_lt (by omega)];have:=congrArg (List.drop 1) hdr;rwa[List.drop_drop,List.drop_drop,hj]at this
     have gof:∃l3,H++[some ⟨1,(List.map u32 l2).set j (V.int IntKind.u32 L),true,true⟩]=H++[some ⟨1,l3.map u32,true,true⟩]/\l3.length=n/\Li l3/\l3.drop (i+(k+1))=l.drop (i+(k+1))/\natV l3+4294967296^(i+(k+1))*C=natV l+4294967296^i*(a[i]*natV (b.take (k+1))):=
      ⟨l2.set j L,by rw[qqu],by simp[hl2],Li.set ll2 (by omega),hset,by rw[show i+(k+1)=j+1 by omega,Nat.pow_succ];exact st⟩
     obtain⟨l3,y1,y2,y3,y4,y5⟩:=gof;simp at y1;simp[qf5,h0,h1,h5,h6,h7,h8,hlb,hlt,hjn,hjl,u32,t1,t2,t3,t4,t5,t6,t7,t8,t9,g2,g3,lim];exact⟨l3,y1,y2,y3,C,m4,rfl,y4,y5⟩
    ·have hkb:k=b.length:=by omega
     rw[qal (l:=b) hgb]at hv2;have hv3:natV l+4294967296^i*(a[i]*natV b)=natV (a.take (i+1))*natV b:=by
      rw[hv,qam,qaw hlt,Nat.add_mul,Nat.mul_assoc]
     rw[hv3]at hv2;rw[hkb]at hj g2;have hd0:dig l2 j=0:=by rw[hdk,hj,hz]
     simp[qf5,h1,h6,h8,hkb,g2,lim];refine WK_up (fun t E H'=>∃l3 c2,H'=H++[some ⟨1,l3.map u32,true,true⟩]/\l3.length=n/\Li l3/\c2<4294967296/\(t=0->l3=l2)/\(t=1->c2=0)/\E 0=lim a/\E 1=lim b/\E 5=.ref H.length 1 0 n/\E 6=.int .i64 i/\E 7=.int .u64 (c2:Nat)/\E 10=.int .i64 ((j+t:Nat):Int)/\natV l3+4294967296^(j+t)*c2=natV (a.take (i+1))*natV b) 1 ?_ ?_
     ·exact⟨l2,c,by simp,hl2,ll2,hc,fun _=>rfl,by simp,by simp[h0,lim],by simp[h1,lim],by simp[h5],by simp[h6],by simp[h7],by simp,hv2⟩
     ·rintro t E' H' ht ⟨l3,c2,rfl,hl3,ll3,hc2,ht0,ht1,k0,k1,k5,k6,k7,k10,hv4⟩;simp only[lim]at k0 k1;by_cases hc0:c2=0
      ·subst hc0;rw[Nat.mul_zero,Nat.add_zero]at hv4;simp[qf4,k0,k1,k5,k6,k7,g1,lim];exact⟨l3,rfl,hl3,ll3,hv4⟩
      ·have htz:t=0:=by
        rcases Nat.lt_or_ge t 1 with h|h
        ·omega
        ·exact absurd (ht1 (by omega)) hc0
       subst htz;have hl32:=ht0 rfl;subst hl32;rw[Nat.add_zero]at k10 hv4;rw[qaw hjl]at hd0 dl;have hc3:0<c2:=by omega
       have t4:IntKind.u64.wrap 0=0:=rfl;have t6:IntKind.u64.wrap (c2:Int)=c2:=qah _ (by omega);have t7:bitsI .and .u64 (c2:Int) 4294967295=some ((c2%4294967296:Nat):Int):=qby c2 (by omega);rw[Nat.mod_eq_of_lt hc2]at t7;have t8:qa1 .shr .u64 (c2:Int) 32=some (.int .u64 ((c2/4294967296:Nat):Int)):=shr64 c2 32 (by omega);rw[Nat.div_eq_of_lt hc2]at t8;have t9:IntKind.u32.wrap (c2:Int)=c2:=qao _ hc2;have g3:IntKind.i64.wrap ((j:Int)+1)=((j+1:Nat):Int):=by rw[wrap_i64]<;>omega
       have st:natV (l3.set j c2)+4294967296^(j+1)*0=natV (a.take (i+1))*natV b:=by
        have:=qqs (l:=l3) (v:=c2) hjl;rw[qaw hjl,hd0,Nat.mul_zero,Nat.add_zero]at this;rw[Nat.mul_zero,Nat.add_zero,this];exact hv4
       simp[qf4,k0,k1,k5,k6,k7,k10,hc3,hjn,hjl,hd0,u32,t4,t6,t7,t8,t9,g3,lim];exact⟨l3.set j c2,by simp[u32],by simp[hl3],Li.set ll3 (by omega),0,by omega,rfl,rfl,st⟩
  ·have hin:i=a.length:=by omega
   subst hin;rw[qal (l:=a) (Nat.le_refl _)]at hv;simp only[lim]at h0;simp[qf3,h0,h5,h6];refine qaj (args:=[.ref H.length 1 0 l.length]) rfl (by simp[hl]) (q7j l) (qqp l (by omega)) ?_;rw[qak ll,hv];simp[lim]
def Dy.prod (a b:Dy):Dy:=Dy.of (a.neg != b.neg) (natV a.m*natV b.m) (a.e+b.e)
theorem qaci (a b:Dy)(ma:a.M)(mb:b.M):CQ prog qts [a.v,b.v] (a.prod b).v:=by
 refine qag rfl fun H=>?_
 have h1:=ma.len;have h2:=mb.len;have h3:=ma.lo;have h4:=ma.hi;have h5:=mb.lo;have h6:=mb.hi;have e1:IntKind.i64.wrap (a.e+b.e)=a.e+b.e:=by rw[wrap_i64]<;>omega
 have hl:(qad (natV a.m*natV b.m)).length<=100000:=by
  refine Nat.le_trans ((limbsOf_len (k:=a.m.length+b.m.length)).2 ?_) (by omega);rw[Nat.pow_add];exact Nat.mul_lt_mul'' (qan ma.li) (qan mb.li)
 simp;refine qaa rfl rfl rfl (qahy a.m b.m (by omega) (by omega) ma.li mb.li) ?_;simp[e1];refine qaa rfl rfl rfl (Of_cq (a.neg != b.neg) (qad (natV a.m*natV b.m)) (a.e+b.e) hl (qaf _) (by omega) (by omega)) ?_;rw[qac];simp[Dy.prod,lim]
theorem Dy.of_valid {neg:Bool}{n:Nat}{e:Int}:(Dy.of neg n e).valid=(Dy.of neg n e).inR:=by
 by_cases h:n=0
 ·subst h;simp only[Dy.of,if_pos];rfl
 ·have hd:Dy.of neg n e=⟨neg,qad (n/2^tz n),e+tz n⟩:=by simp[Dy.of,h]
  rw[hd];obtain⟨h1,_,_⟩:=qq7 h;have⟨N,hN⟩:∃N,N=n/2^tz n:=⟨_,rfl⟩
  rw[<-hN]at h1 ⊢;have hn0:N≠0:=by omega
  have ht:=qfe N;have hv:=qac N;have⟨B,hB⟩:∃B,B=4096:=⟨_,rfl⟩
  have hb:=qb9 (N:=N) (B:=B) (k:=128);cases hl:qad N with
  |nil=>exact absurd hl (qcu hn0)
  |cons x l=>
   rw[hl]at ht hv hb;have hx:x%2=1:=by simp only[natV]at hv;omega
   have hlast:(x :: l).getLast (by simp)≠0:=ht _ (List.getLast?_eq_some_getLast (by simp));simp only[Dy.valid];cases hr:Dy.inR ⟨neg,x :: l,e+tz n⟩with
   |false=>simp
   |true=>
    have hlen:(x :: l).length<=256:=by
     simp only[Dy.inR,Bool.or_eq_true,Bool.and_eq_true,decide_eq_true_eq,beq_iff_eq]at hr;have h4:bitL (natV (x :: l))<=B:=by
      rcases hr with h|h
      ·omega
      ·have:=h.1.1.1;omega
     rw[hv]at h4;have:=hb (Nat.lt_of_lt_of_le (qbe N) (Nat.pow_le_pow_right (by omega) h4)) (by omega);omega
    simp only[Bool.and_true,Bool.and_eq_true,decide_eq_true_eq];exact⟨⟨hlen,hx⟩,hlast⟩
theorem Dy.of_ok {neg:Bool}{n:Nat}{e:Int}(h:(Dy.of neg n e).inR=true):(Dy.of neg n e).Ok:=by
 refine Dy.Ok.of ?_ (by rw[Dy.of_valid];exact h);unfold Dy.of;split
 ·intro x hx;simp at hx
 ·exact qaf _
theorem qacr (d:Dy)(w:d.W):CQ prog qtt [d.v] (.tup [(if d.valid then d else Dy.zero).v,.int .i64 (if d.valid then 0 else 9)]):=by
 refine qag rfl fun H=>?_
 simp;refine qaa rfl rfl rfl (qnb d w) ?_;cases h:d.valid<;>simp[Dy.zero,lim]
theorem q4y (e:Int):CQ prog qst [.int .i64 e] (.bool (decide (-32768<=e)&&decide (e<=32768))):=by
 refine qag rfl fun H=>?_
 simp;grind
theorem chk_eq {neg:Bool}{n:Nat}{e:Int}:(if(Dy.of neg n e).valid then Dy.of neg n e else Dy.zero)=(Dy.of neg n e).chk/\(if(Dy.of neg n e).valid then(0:Int)else 9)=(Dy.of neg n e).chkE:=by
 rw[Dy.of_valid];exact⟨rfl,rfl⟩
theorem q62 (d:Dy)(k:Int)(w:d.W):CQ prog qxv [d.v,.int .i64 k] (.tup [(d.scl k).v,.int .i64 (d.sclE k)]):=by
 refine qag rfl fun H=>?_
 simp;refine qaa rfl rfl rfl (qnb d w) ?_;cases hv:d.valid
 ·simp[Dy.scl,Dy.sclE,hv,Dy.zero,lim]
 ·have ok:=Dy.Ok.of w.li hv;simp;refine qaa rfl rfl rfl (q4y k) ?_;by_cases hk:-32768<=k/\k<=32768
  ·have h1:=ok.elo;have h2:=ok.ehi;have h3:=ok.len;have e1:IntKind.i64.wrap (d.e+k)=d.e+k:=by rw[wrap_i64]<;>omega
   simp[hk,e1];refine qaa rfl rfl rfl (Of_cq d.neg d.m (d.e+k) (by omega) ok.li (by omega) (by omega)) ?_;have w2:(Dy.of d.neg (natV d.m) (d.e+k)).W:=Dy.of_W (Nat.le_trans (limbsOf_len.2 (qan ok.li)) (by omega));simp;refine qaa rfl rfl rfl (qacr _ w2) ?_;rw[chk_eq.1,chk_eq.2];simp[Dy.scl,Dy.sclE,hv,hk,lim]
  ·have hk2:(decide (-32768<=k)&&decide (k<=32768))=false:=by
    simp;omega
   simp[hk2,Dy.scl,Dy.sclE,hv,hk,Dy.zero,lim]
theorem natV2 (n:Nat):natV [n%4294967296,n/4294967296]=n:=by simp[natV];omega
theorem qanm (n:Int)(h1:-4611686018427387904<=n)(h2:n<=4611686018427387904):CQ prog q28 [.int .i64 n] (Dy.of (decide (n<0)) n.natAbs 0).v:=by
 refine qag rfl fun H=>?_
 have⟨N,hN⟩:∃N,N=n.natAbs:=⟨_,rfl⟩
 have e3:=qby N (by omega);have e5:qa1 .shr .u64 (N:Int) 32=some (.int .u64 ((N/2^32:Nat):Int)):=shr64 N 32 (by omega);have hv:=natV2 N;have⟨L,hL⟩:∃L,L=N%4294967296:=⟨_,rfl⟩
 have⟨C,hC⟩:∃C,C=N/4294967296:=⟨_,rfl⟩
 rw[<-hL]at e3;rw[show(2:Nat)^32=4294967296 from rfl,<-hC]at e5;rw[<-hL,<-hC]at hv;have e4:IntKind.u32.wrap (L:Int)=L:=qao _ (by omega);have e6:IntKind.u32.wrap (C:Int)=C:=qao _ (by omega);have oc:=Of_cq (decide (n<0)) [L,C] 0 (by simp) (by intro x hx;simp at hx;omega) (by omega) (by omega);rw[hv]at oc;rw[<-hN];by_cases hn:n<0
 ·have e1:IntKind.u64.wrap n=18446744073709551616+n:=by simp only[IntKind.wrap,IntKind.bits,IntKind.signed];simp;omega
  have e2:IntKind.u64.wrap (0-(18446744073709551616+n))=(N:Int):=by simp only[IntKind.wrap,IntKind.bits,IntKind.signed];simp;omega
  have e2':IntKind.u64.wrap (-(18446744073709551616+n))=(N:Int):=by rw[<-e2];congr 1;omega
  simp[hn]at oc ⊢;simp[e1,e2',e3,e4,e5,e6];refine qaj rfl rfl (H1:=H++[some ⟨3,[.agg [.bool false,.nil,.int .i64 0]],false,true⟩,some ⟨1,[.int .u32 L,.int .u32 C],true,false⟩]) (vs:=[.bool true,lim [L,C],.int .i64 0]) (by simp[prep,frzVs,frzV];rfl) oc ?_;simp
 ·have e1:IntKind.u64.wrap n=(N:Int):=by rw[qax]<;>omega
  simp[hn]at oc ⊢;simp[e1,e3,e4,e5,e6];refine qaj rfl rfl (H1:=H++[some ⟨3,[.agg [.bool false,.nil,.int .i64 0]],false,true⟩,some ⟨1,[.int .u32 L,.int .u32 C],true,false⟩]) (vs:=[.bool false,lim [L,C],.int .i64 0]) (by simp[prep,frzVs,frzV];rfl) oc ?_;simp
theorem qmy (n:Int)(h1:-4611686018427387904<=n)(h2:n<=4611686018427387904):CQ prog quk [.int .i64 n] (Dy.of (decide (n<0)) n.natAbs 0).v:=by
 refine qag rfl fun H=>?_
 have⟨N,hN⟩:∃N,N=n.natAbs:=⟨_,rfl⟩
 have e3:=qba N;have e5:qa1 .shr .u64 (N:Int) 32=some (.int .u64 ((N/2^32:Nat):Int)):=shr64 N 32 (by omega);have hv:=natV2 N;have⟨L,hL⟩:∃L,L=N%4294967296:=⟨_,rfl⟩
 have⟨C,hC⟩:∃C,C=N/4294967296:=⟨_,rfl⟩
 rw[<-hL]at e3;rw[show(2:Nat)^32=4294967296 from rfl,<-hC]at e5;rw[<-hL,<-hC]at hv;have e6:IntKind.u32.wrap (C:Int)=C:=qao _ (by omega);have oc:=qpw (decide (n<0)) [L,C] 0 (by simp) (by intro x hx;simp at hx;omega) (by omega) (by omega);rw[hv]at oc;rw[<-hN];by_cases hn:n<0
 ·have e1:IntKind.u64.wrap n=18446744073709551616+n:=by simp only[IntKind.wrap,IntKind.bits,IntKind.signed];simp;omega
  have e2:IntKind.u64.wrap (0-(18446744073709551616+n))=(N:Int):=by simp only[IntKind.wrap,IntKind.bits,IntKind.signed];simp;omega
  have e2':IntKind.u64.wrap (-(18446744073709551616+n))=(N:Int):=by rw[<-e2];congr 1;omega
  simp[hn]at oc ⊢;simp[e1,e2',e3,e5,e6];refine qaj rfl rfl (H1:=H++[some ⟨3,[.agg [.bool false,.nil,.int .i64 0]],false,true⟩,some ⟨1,[.int .u32 L,.int .u32 C],true,false⟩]) (vs:=[.bool true,lim [L,C],.int .i64 0]) (by simp[prep,frzVs,frzV];rfl) oc ?_;simp
 ·have e1:IntKind.u64.wrap n=(N:Int):=by rw[qax]<;>omega
  simp[hn]at oc ⊢;simp[e1,e3,e5,e6];refine qaj rfl rfl (H1:=H++[some ⟨3,[.agg [.bool false,.nil,.int .i64 0]],false,true⟩,some ⟨1,[.int .u32 L,.int .u32 C],true,false⟩]) (vs:=[.bool false,lim [L,C],.int .i64 0]) (by simp[prep,frzVs,frzV];rfl) oc ?_;simp
end Go.Abs.W
