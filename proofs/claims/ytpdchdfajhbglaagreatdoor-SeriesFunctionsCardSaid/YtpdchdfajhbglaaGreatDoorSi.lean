/- Parts of the proof: FpSf6, FpSf7. -/
import Derived.Test.YtpdchdfajhbglaaGreatDoorSg
namespace Go.Abs.W
theorem qkp (k:Int)(x y:Iv)(p:Int)(h0:0<=k)(h1:k<=1000)(wx:x.W)(wy:y.W):CQ prog qxf [.int .i64 k,x.v,y.v,.int .i64 p] (((nI k k).mul x p).mul y p).v:=by
 refine qag rfl fun H=>?_
 have wk:(nI k k).W:=nI_Wk (by omega);have c1:=qr4 k (by omega) (by omega);have c2:=q37 (nI k k) x p wk wx;have c3:=q37 ((nI k k).mul x p) y p mul_W wy;generalize nI k k=N at *
 simp;refine zq c1 ?_;simp;refine zq c2 ?_;simp;refine zq c3 ?_;simp[lim]
theorem Out.read {H0 H:Heap}{v:V}{l:List Iv}{n:Nat}(h:Out H0 H v 7 (l.map Iv.v))(hl:l.length=n){t:Nat}(ht:t<n):∃b blk,v=.ref b 7 0 n/\(∀G:Heap,(H++G)[b]?=some (some ⟨7,blk,true,true⟩))/\blk[t]?=some (at0 l t).v:=by
 obtain⟨b,blk,r1,r2,r3⟩:=h.get (i:=t) (by rw[List.length_map];omega);rw[List.length_map,hl]at r1;rw[List.getElem_map]at r3;exact⟨b,blk,r1,(qar (List.prefix_refl H) r2).2,by rw[r3,qbl (by omega)]⟩
set_option maxRecDepth 20000 in
theorem qace (a:List Iv)(p:Int)(wa:SW a)(h1:1<=a.length):CQ prog qzj [ivs a,.int .i64 p] (ivs (sqrtL a p)):=by
 refine qag rfl fun H=>?_
 have la:=wa.1;have ha0:0<a.length:=h1;simp[ivs,ha0];refine qaa rfl rfl rfl (qahh a[0] p (wa.2 _ (List.getElem_mem ha0))) ?_;have hS:a[0].sqrt p=sqrtC a p [] 0:=by simp[sqrtC,qbl ha0]
 have bS:bld (sqrtC a p) 1=[sqrtC a p [] 0]:=rfl;rw[hS];generalize hT:sqrtC a p [] 0=S at *
 simp;have⟨n,hn⟩:∃n,n+1=a.length:=⟨a.length-1,by omega⟩
 refine WK_up (fun i E H'=>E 0=ivs a/\E 1=.int .i64 p/\E 6=.int .i64 ((i:Int)+1)/\Out H H' (E 5) 7 ((bld (sqrtC a p) (i+1)).map Iv.v)) n ?_ ?_
 ·simp[ivs];exact⟨by simp,.inr ⟨H.length,[S.v],by simp,by simp,by simp,by simp[bS],by simp⟩⟩
 ·rintro i E H' hi ⟨e0,e1,e6,ho⟩;simp only[ivs]at e0;rcases Nat.lt_or_ge i n with hlt|hge
  ·have g1:IntKind.i64.wrap ((i:Int)+1+1)=(i:Int)+1+1:=by rw[wrap_i64]<;>omega
   have f5:(i:Int)+1<a.length:=by omega
   have f6:i+1<a.length:=by omega
   have f7:(0:Int)<=(i:Int)+1:=by omega
   have f8:((i:Int)+1).toNat=i+1:=by omega
   have wai:=wa.2 _ (List.getElem_mem f6);have hob:=qdc (f:=sqrtC a p) (i+1);have hW:∀x ∈ bld (sqrtC a p) (i+1),x.W:=bld_W fun _ _ _=>q1q
   simp[qgl,e0,e6,f5,f6,f7,f8];refine WK_up (fun j E2 H2=>E2 0=ivs a/\E2 1=.int .i64 p/\E2 6=.int .i64 ((i:Int)+1)/\E2 5=E 5/\E2 7=.ptr H'.length 0 0/\E2 8=.int .i64 ((j:Int)+1) /\
    H2=H'++[some ⟨7,[(lessI a[i+1] p (fun t=>(at0 (bld (sqrtC a p) (i+1)) (1+t)).mul (at0 (bld (sqrtC a p) (i+1)) (i+1-(1+t))) p) j).v],false,true⟩]) i ?_ ?_
   ·simp[e0,e1,e6,lessI,ivs]
   ·rintro j E2 H2 hj ⟨i0,i1,i6,i5,i7,i8,rfl⟩;simp only[ivs]at i0;have wS:=q2a (p:=p) (f:=fun t=>(at0 (bld (sqrtC a p) (i+1)) (1+t)).mul (at0 (bld (sqrtC a p) (i+1)) (i+1-(1+t))) p) wai j;rcases Nat.lt_or_ge j i with jlt|jge
    ·have q1:j+1<i+1:=by omega
     have q2:i-j<i+1:=by omega
     have q3:(j:Int)+1<(i:Int)+1:=by omega
     have q4:IntKind.i64.wrap ((i:Int)+1-((j:Int)+1))=((i-j:Nat):Int):=by rw[wrap_i64]<;>omega
     have q5:(0:Int)<=(j:Int)+1:=by omega
     have q6:((j:Int)+1).toNat=j+1:=by omega
     have q7:IntKind.i64.wrap ((j:Int)+1+1)=(j:Int)+1+1:=by rw[wrap_i64]<;>omega
     have s1:lessI a[i+1] p (fun t=>(at0 (bld (sqrtC a p) (i+1)) (1+t)).mul (at0 (bld (sqrtC a p) (i+1)) (i+1-(1+t))) p) (j+1)=(lessI a[i+1] p (fun t=>(at0 (bld (sqrtC a p) (i+1)) (1+t)).mul (at0 (bld (sqrtC a p) (i+1)) (i+1-(1+t))) p) j).add ((at0 (bld (sqrtC a p) (i+1)) (j+1)).mul (at0 (bld (sqrtC a p) (i+1)) (i-j)) p).neg p:=by
      simp only[lessI];rw[show 1+j=j+1 by omega,show i+1-(j+1)=i-j by omega]
     obtain⟨rb,blk,r1,r2,r3⟩:=ho.read hob q1;obtain⟨rb2,blk2,t1,t2,t3⟩:=ho.read hob q2;rw[r1]at t1;injection t1 with t1;subst t1
     have:=r2 [];rw[t2 []]at this;injection this with this;injection this with this;injection this with _ this;subst this
     have cn:=q37 (at0 (bld (sqrtC a p) (i+1)) (j+1)) (at0 (bld (sqrtC a p) (i+1)) (i-j)) p (at0_W hW) (at0_W hW);generalize at0 (bld (sqrtC a p) (i+1)) (j+1)=o at *
     generalize at0 (bld (sqrtC a p) (i+1)) (i-j)=o2 at *
     generalize lessI a[i+1] p (fun t=>(at0 (bld (sqrtC a p) (i+1)) (1+t)).mul (at0 (bld (sqrtC a p) (i+1)) (i+1-(1+t))) p) j=S at *
     have ca:=qaa3 S (o.mul o2 p) p wS mul_W;simp[qgm,i1,i6,i7,i8,i5,r1,r2,r3,t3,q1,q2,q3,q4,q5,q6];refine zq cn ?_;simp[i1];refine zq ca ?_;simp[i0,i1,i6,i5,r1,i7,i8,q7,s1,ivs];exact jlt
    ·have hji:j=i:=by omega
     subst hji;have q3:¬(j:Int)+1<(j:Int)+1:=by omega
     obtain⟨rb,blk,r1,r2,r3⟩:=ho.read hob (show 0<j+1 by omega);have wo:=at0_W (k:=0) hW;have cs:=qacg (at0 (bld (sqrtC a p) (j+1)) 0) 1 wo;have cd:=qq0 (lessI a[j+1] p (fun t=>(at0 (bld (sqrtC a p) (j+1)) (1+t)).mul (at0 (bld (sqrtC a p) (j+1)) (j+1-(1+t))) p) j) ((at0 (bld (sqrtC a p) (j+1)) 0).scl 1) p wS Iv.scl_W';have hd:(lessI a[j+1] p (fun t=>(at0 (bld (sqrtC a p) (j+1)) (1+t)).mul (at0 (bld (sqrtC a p) (j+1)) (j+1-(1+t))) p) j).div ((at0 (bld (sqrtC a p) (j+1)) 0).scl 1) p=sqrtC a p (bld (sqrtC a p) (j+1)) (j+1):=by
      simp only[sqrtC];rw[qbl f6]
     rw[hd]at cd;generalize lessI a[j+1] p (fun t=>(at0 (bld (sqrtC a p) (j+1)) (1+t)).mul (at0 (bld (sqrtC a p) (j+1)) (j+1-(1+t))) p) j=S at *
     generalize at0 (bld (sqrtC a p) (j+1)) 0=o at *
     simp[qgm,i6,i7,i8,i5,r1,r2,r3];refine zq cs ?_;simp[i1];refine zq cd ?_;obtain⟨v',H'',e',ho'⟩:=(ho.grow [some ⟨7,[S.v],false,true⟩]).oneIv (sqrtC a p (bld (sqrtC a p) (j+1)) (j+1)) (by simp;omega);simp only[Iv.v]at e';rw[r1]at e';simp at e';simp[i0,i1,i6,e',g1,ivs];refine⟨hlt,?_⟩;simpa[bld]using ho'
  ·have hin:i=n:=by omega
   subst hin;have f5:¬(i:Int)+1<a.length:=by omega
   simp[qgl,e0,e6,f5];have:=ho.fin (H1:=H) (List.prefix_refl _);rw[this,hn];simp[sqrtL]
set_option maxRecDepth 20000 in
theorem qahg (a:List Iv)(p:Int)(wa:SW a)(h1:1<=a.length)(h17:a.length<=1000):CQ prog q2u [ivs a,((at0 a 0).log p).v,.int .i64 p] (ivs (logL a p)):=by
 refine qag rfl fun H=>?_
 have la:=wa.1;have ha0:0<a.length:=h1;have hS:(at0 a 0).log p=logC a p [] 0:=rfl;have bS:bld (logC a p) 1=[logC a p [] 0]:=rfl;rw[hS];generalize hT:logC a p [] 0=S at *
 simp[ivs];have⟨n,hn⟩:∃n,n+1=a.length:=⟨a.length-1,by omega⟩
 refine WK_up (fun i E H'=>E 0=ivs a/\E 2=.int .i64 p/\E 8=.int .i64 ((i:Int)+1)/\Out H H' (E 7) 7 ((bld (logC a p) (i+1)).map Iv.v)) n ?_ ?_
 ·simp[ivs];exact⟨by simp,.inr ⟨H.length+1,[S.v],by simp,by simp,by simp,by simp[bS],by simp⟩⟩
 ·rintro i E H' hi ⟨e0,e2,e8,ho⟩;simp only[ivs]at e0;rcases Nat.lt_or_ge i n with hlt|hge
  ·have g1:IntKind.i64.wrap ((i:Int)+1+1)=(i:Int)+1+1:=by rw[wrap_i64]<;>omega
   have f5:(i:Int)+1<a.length:=by omega
   have f6:i+1<a.length:=by omega
   have f7:(0:Int)<=(i:Int)+1:=by omega
   have f8:((i:Int)+1).toNat=i+1:=by omega
   have hob:=qdc (f:=logC a p) (i+1);have hW:∀x ∈ bld (logC a p) (i+1),x.W:=bld_W fun _ _ _=>qaex
   have c0:=qr4 0 (by omega) (by omega);have w0:(nI 0 0).W:=nI_Wk (by decide);simp[qhy,e0,e8,f5];refine zq c0 ?_;simp;refine WK_up (fun j E2 H2=>E2 0=ivs a/\E2 2=.int .i64 p/\E2 8=.int .i64 ((i:Int)+1)/\E2 7=E 7/\E2 9=.ptr H'.length 0 0/\E2 10=.int .i64 ((j:Int)+1) /\
    H2=H'++[some ⟨7,[(accI (nI 0 0) p (tm1 (bld (logC a p) (i+1)) a p i) j).v],false,true⟩]) i ?_ ?_
   ·simp[e0,e2,e8,accI,ivs]
   ·rintro j E2 H2 hj ⟨i0,i2,i8,i7,i9,i10,rfl⟩;simp only[ivs]at i0;have wS:=qalf (p:=p) (f:=tm1 (bld (logC a p) (i+1)) a p i) w0 j;rcases Nat.lt_or_ge j i with jlt|jge
    ·have q1:j+1<i+1:=by omega
     have q2:i-j<a.length:=by omega
     have q3:(j:Int)+1<(i:Int)+1:=by omega
     have q4:IntKind.i64.wrap ((i:Int)+1-((j:Int)+1))=((i-j:Nat):Int):=by rw[wrap_i64]<;>omega
     have q5:(0:Int)<=(j:Int)+1:=by omega
     have q6:((j:Int)+1).toNat=j+1:=by omega
     have q7:IntKind.i64.wrap ((j:Int)+1+1)=(j:Int)+1+1:=by rw[wrap_i64]<;>omega
     obtain⟨rb,blk,r1,r2,r3⟩:=ho.read hob q1;have ct:=qkp ((j+1:Nat):Int) (at0 (bld (logC a p) (i+1)) (j+1)) a[i-j] p (by omega) (by omega) (at0_W hW) (wa.2 _ (List.getElem_mem q2));have s1:accI (nI 0 0) p (tm1 (bld (logC a p) (i+1)) a p i) (j+1)=(accI (nI 0 0) p (tm1 (bld (logC a p) (i+1)) a p i) j).add (((nI ((j+1:Nat):Int) ((j+1:Nat):Int)).mul (at0 (bld (logC a p) (i+1)) (j+1)) p).mul a[i-j] p) p:=by
      simp only[accI,tm1];rw[qbl q2]
     generalize at0 (bld (logC a p) (i+1)) (j+1)=o at *
     generalize accI (nI 0 0) p (tm1 (bld (logC a p) (i+1)) a p i) j=S at *
     have wT:(((nI ((j+1:Nat):Int) ((j+1:Nat):Int)).mul o p).mul a[i-j] p).W:=mul_W;generalize ((nI ((j+1:Nat):Int) ((j+1:Nat):Int)).mul o p).mul a[i-j] p=T at *
     have ca:=qta S T p wS wT;have ecast:((j+1:Nat):Int)=(j:Int)+1:=by omega
     rw[ecast]at ct;simp[qhz,i0,i2,i7,i8,i9,i10,r1,r2,r3,q1,q2,q3,q4,q5,q6];refine zq ct ?_;simp[i2];refine zq ca ?_;simp[i0,i2,i8,i7,r1,i9,i10,q7,s1,ivs];exact jlt
    ·have hji:j=i:=by omega
     subst hji;have q3:¬(j:Int)+1<(j:Int)+1:=by omega
     have cw:=qr4 ((j+1:Nat):Int) (by omega) (by omega);have ecast:((j+1:Nat):Int)=(j:Int)+1:=by omega
     have wj:(nI ((j+1:Nat):Int) ((j+1:Nat):Int)).W:=nI_W (by omega) (by omega);have wa1:=wa.2 _ (List.getElem_mem f6);have wa0:=wa.2 _ (List.getElem_mem ha0);have c1:=qq0 (accI (nI 0 0) p (tm1 (bld (logC a p) (j+1)) a p j) j) (nI ((j+1:Nat):Int) ((j+1:Nat):Int)) p wS wj;have c2:=qaa3 a[j+1] ((accI (nI 0 0) p (tm1 (bld (logC a p) (j+1)) a p j) j).div (nI ((j+1:Nat):Int) ((j+1:Nat):Int)) p) p wa1 div_W;have hd:(a[j+1].add ((accI (nI 0 0) p (tm1 (bld (logC a p) (j+1)) a p j) j).div (nI ((j+1:Nat):Int) ((j+1:Nat):Int)) p).neg p).div a[0] p=logC a p (bld (logC a p) (j+1)) (j+1):=by
      simp only[logC];rw[qbl f6,qbl ha0]
     have c3:=qq0 (a[j+1].add ((accI (nI 0 0) p (tm1 (bld (logC a p) (j+1)) a p j) j).div (nI ((j+1:Nat):Int) ((j+1:Nat):Int)) p).neg p) a[0] p add_W wa0;rw[hd]at c3;generalize accI (nI 0 0) p (tm1 (bld (logC a p) (j+1)) a p j) j=S at *
     generalize nI ((j+1:Nat):Int) ((j+1:Nat):Int)=NJ at *
     generalize a[j+1].add (S.div NJ p).neg p=T at *
     rw[ecast]at cw;simp[qhz,i8,i9,i10,i0,f6,f7,f8];refine zq cw ?_;simp[i2];refine zq c1 ?_;simp[i2];refine zq c2 ?_;simp[i0,i2,i7,ha0];refine zq c3 ?_;obtain⟨v',H'',e',ho'⟩:=(ho.grow [some ⟨7,[S.v],false,true⟩]).oneIv (logC a p (bld (logC a p) (j+1)) (j+1)) (by simp;omega);simp only[Iv.v]at e';simp at e';simp[i0,i2,i8,e',g1,ivs];refine⟨hlt,?_⟩;simpa[bld]using ho'
  ·have hin:i=n:=by omega
   subst hin;have f5:¬(i:Int)+1<a.length:=by omega
   simp[qhy,e0,e8,f5];have:=ho.fin (H1:=H) (List.prefix_refl _);rw[this,hn];simp[logL]
set_option maxRecDepth 20000 in
theorem qahi (a:List Iv)(p:Int)(wa:SW a)(h1:1<=a.length)(h17:a.length<=1000):CQ prog q2v [ivs a,((at0 a 0).exp p).v,.int .i64 p] (ivs (expL a p)):=by
 refine qag rfl fun H=>?_
 have la:=wa.1;have ha0:0<a.length:=h1;have hS:(at0 a 0).exp p=expC a p [] 0:=rfl;have bS:bld (expC a p) 1=[expC a p [] 0]:=rfl;rw[hS];generalize hT:expC a p [] 0=S at *
 simp[ivs];have⟨n,hn⟩:∃n,n+1=a.length:=⟨a.length-1,by omega⟩
 refine WK_up (fun i E H'=>E 0=ivs a/\E 2=.int .i64 p/\E 8=.int .i64 ((i:Int)+1)/\Out H H' (E 7) 7 ((bld (expC a p) (i+1)).map Iv.v)) n ?_ ?_
 ·simp[ivs];exact⟨by simp,.inr ⟨H.length+1,[S.v],by simp,by simp,by simp,by simp[bS],by simp⟩⟩
 ·rintro i E H' hi ⟨e0,e2,e8,ho⟩;simp only[ivs]at e0;rcases Nat.lt_or_ge i n with hlt|hge
  ·have g1:IntKind.i64.wrap ((i:Int)+1+1)=(i:Int)+1+1:=by rw[wrap_i64]<;>omega
   have f5:(i:Int)+1<a.length:=by omega
   have f6:1<a.length:=by omega
   have f9:IntKind.i64.wrap (i:Int)=(i:Int):=by rw[wrap_i64]<;>omega
   have hob:=qdc (f:=expC a p) (i+1);have hW:∀x ∈ bld (expC a p) (i+1),x.W:=bld_W fun _ _ _=>qafo wa
   obtain⟨rb,blk,r1,r2,r3⟩:=ho.read hob (show i<i+1 by omega);have rr:=r2 [];rw[List.append_nil]at rr;have ct:=qkp 1 a[1] (at0 (bld (expC a p) (i+1)) i) p (by omega) (by omega) (wa.2 _ (List.getElem_mem f6)) (at0_W hW);have s0:((nI 1 1).mul a[1] p).mul (at0 (bld (expC a p) (i+1)) i) p=sumI p (tm1 a (bld (expC a p) (i+1)) p i) 0:=by
    simp only[sumI,tm1];rw[qbl f6,Nat.sub_zero];rfl
   rw[s0]at ct;generalize at0 (bld (expC a p) (i+1)) i=o at *
   simp[qh0,e0,e2,e8,f5,f6,f9,r1,rr,r3];refine zq ct ?_;simp;refine WK_up (fun j E2 H2=>E2 0=ivs a/\E2 2=.int .i64 p/\E2 8=.int .i64 ((i:Int)+1)/\E2 7=E 7/\E2 9=.ptr H'.length 0 0/\E2 10=.int .i64 ((j:Int)+2) /\
    H2=H'++[some ⟨7,[(sumI p (tm1 a (bld (expC a p) (i+1)) p i) j).v],false,true⟩]) i ?_ ?_
   ·simp[e0,e2,e8,r1,ivs]
   ·rintro j E2 H2 hj ⟨i0,i2,i8,i7,i9,i10,rfl⟩;simp only[ivs]at i0;have wS:=qv4 (p:=p) (f:=tm1 a (bld (expC a p) (i+1)) p i) tm1_W j;rcases Nat.lt_or_ge j i with jlt|jge
    ·have q1:j+2<a.length:=by omega
     have q2:i-(j+1)<i+1:=by omega
     have q3:(j:Int)+2<=(i:Int)+1:=by omega
     have q4:IntKind.i64.wrap ((i:Int)+1-((j:Int)+2))=((i-(j+1):Nat):Int):=by rw[wrap_i64]<;>omega
     have q5:(0:Int)<=(j:Int)+2:=by omega
     have q6:((j:Int)+2).toNat=j+2:=by omega
     have q7:IntKind.i64.wrap ((j:Int)+2+1)=(j:Int)+1+2:=by rw[wrap_i64]<;>omega
     obtain⟨rb',blk',t1,t2,t3⟩:=ho.read hob q2;have ct:=qkp ((j+2:Nat):Int) a[j+2] (at0 (bld (expC a p) (i+1)) (i-(j+1))) p (by omega) (by omega) (wa.2 _ (List.getElem_mem q1)) (at0_W hW);have s1:sumI p (tm1 a (bld (expC a p) (i+1)) p i) (j+1)=(sumI p (tm1 a (bld (expC a p) (i+1)) p i) j).add (((nI ((j+2:Nat):Int) ((j+2:Nat):Int)).mul a[j+2] p).mul (at0 (bld (expC a p) (i+1)) (i-(j+1))) p) p:=by
      have e:at0 a (j+1+1)=a[j+2]:=qbl q1;simp only[sumI,tm1];rw[e]
     generalize at0 (bld (expC a p) (i+1)) (i-(j+1))=o2 at *
     generalize sumI p (tm1 a (bld (expC a p) (i+1)) p i) j=S at *
     have wT:(((nI ((j+2:Nat):Int) ((j+2:Nat):Int)).mul a[j+2] p).mul o2 p).W:=mul_W;generalize ((nI ((j+2:Nat):Int) ((j+2:Nat):Int)).mul a[j+2] p).mul o2 p=T at *
     have ca:=qta S T p wS wT;have ecast:((j+2:Nat):Int)=(j:Int)+2:=by omega
     rw[ecast]at ct;rw[t1]at i7;simp[qh1,i0,i2,i7,i8,i9,i10,t2,t3,q1,q2,q3,q4,q5,q6];refine zq ct ?_;simp[i2];refine zq ca ?_;simp[i0,i2,i8,i7,t1,i9,i10,q7,s1,ivs];exact jlt
    ·have hji:j=i:=by omega
     subst hji;have q3:¬(j:Int)+2<=(j:Int)+1:=by omega
     have cw:=qr4 ((j+1:Nat):Int) (by omega) (by omega);have ecast:((j+1:Nat):Int)=(j:Int)+1:=by omega
     have wj:(nI ((j+1:Nat):Int) ((j+1:Nat):Int)).W:=nI_W (by omega) (by omega);have c1:=qq0 (sumI p (tm1 a (bld (expC a p) (j+1)) p j) j) (nI ((j+1:Nat):Int) ((j+1:Nat):Int)) p wS wj;rw[show(sumI p (tm1 a (bld (expC a p) (j+1)) p j) j).div (nI ((j+1:Nat):Int) ((j+1:Nat):Int)) p=expC a p (bld (expC a p) (j+1)) (j+1) from rfl]at c1;generalize sumI p (tm1 a (bld (expC a p) (j+1)) p j) j=S at *
     generalize nI ((j+1:Nat):Int) ((j+1:Nat):Int)=NJ at *
     rw[ecast]at cw;simp[qh1,i8,i9,i10,q3];refine zq cw ?_;simp[i2];refine zq c1 ?_;obtain⟨v',H'',e',ho'⟩:=(ho.grow [some ⟨7,[S.v],false,true⟩]).oneIv (expC a p (bld (expC a p) (j+1)) (j+1)) (by simp;omega);simp only[Iv.v]at e';simp at e';simp[i0,i2,i7,i8,e',g1,ivs];refine⟨hlt,?_⟩;simpa[bld]using ho'
  ·have hin:i=n:=by omega
   subst hin;have f5:¬(i:Int)+1<a.length:=by omega
   simp[qh0,e0,e8,f5];have:=ho.fin (H1:=H) (List.prefix_refl _);rw[this,hn];simp[expL]
set_option maxHeartbeats 4000000
set_option maxRecDepth 20000 in
theorem q61 (a:List Iv)(p:Int)(wa:SW a)(h1:1<=a.length)(h17:a.length<=1000) :
 CQ prog qu9 [ivs a,(bothI (at0 a 0) false p).v,(bothI (at0 a 0) true p).v,.int .i64 p] (.tup [ivs (scB a p a.length).1,ivs (scB a p a.length).2]):=by
 refine qag rfl fun H=>?_
 have la:=wa.1;have b1:(scB a p 1).1=[bothI (at0 a 0) false p]:=rfl;have b2:(scB a p 1).2=[bothI (at0 a 0) true p]:=rfl;generalize bothI (at0 a 0) false p=S at *
 generalize bothI (at0 a 0) true p=C at *
 simp[ivs];have⟨n,hn⟩:∃n,n+1=a.length:=⟨a.length-1,by omega⟩
 refine WK_up (fun i E H'=>E 0=ivs a/\E 3=.int .i64 p/\E 12=.int .i64 ((i:Int)+1)/\∃rs rc,E 10=.ref rs 7 0 (i+1)/\E 11=.ref rc 7 0 (i+1)/\rs≠rc /\
  Out H H' (.ref rs 7 0 (i+1)) 7 ((scB a p (i+1)).1.map Iv.v)/\Out H H' (.ref rc 7 0 (i+1)) 7 ((scB a p (i+1)).2.map Iv.v)) n ?_ ?_
 ·simp[ivs];refine⟨⟨by simp,.inr ⟨H.length+2,[S.v],by simp,by simp[b1],by simp,by simp[b1],by simp[b1]⟩⟩,⟨by simp,.inr ⟨H.length+3,[C.v],by simp,by simp[b2],by simp,by simp[b2],by simp[b2]⟩⟩⟩
 ·rintro i E H' hi ⟨e0,e3,e12,rs,rc,e10,e11,hne,ho,hq⟩;simp only[ivs]at e0;obtain⟨l1,l2⟩:=qwe (a:=a) (p:=p) (i+1);rcases Nat.lt_or_ge i n with hlt|hge
  ·have g1:IntKind.i64.wrap ((i:Int)+1+1)=(i:Int)+1+1:=by rw[wrap_i64]<;>omega
   have f5:(i:Int)+1<a.length:=by omega
   have f6:1<a.length:=by omega
   have f9:IntKind.i64.wrap (i:Int)=(i:Int):=by rw[wrap_i64]<;>omega
   obtain⟨w1,w2⟩:=scB_W (p:=p) wa (i+1);obtain⟨bc,gc,hc⟩:=qaav hq l2;obtain⟨bs,gs,hs⟩:=qaav ho l1;have s1:(scB a p (i+1+1)).1=(scB a p (i+1)).1++[prt a (scB a p (i+1)).2 p i]:=rfl;have s2:(scB a p (i+1+1)).2=(scB a p (i+1)).2++[(prt a (scB a p (i+1)).1 p i).neg]:=rfl;generalize hSL:(scB a p (i+1)).1=SL at *
   generalize hCL:(scB a p (i+1)).2=CL at *
   have pc:=(qar (List.prefix_refl H') gc).2;have ps:=(qar (List.prefix_refl H') gs).2;have t1:=qkp 1 a[1] (at0 CL i) p (by omega) (by omega) (wa.2 _ (List.getElem_mem f6)) (at0_W w2);have t2:=qkp 1 a[1] (at0 SL i) p (by omega) (by omega) (wa.2 _ (List.getElem_mem f6)) (at0_W w1);have z:∀o:List Iv,((nI 1 1).mul a[1] p).mul (at0 o i) p=sumI p (tm1 a o p i) 0:=fun o=>by
    simp only[sumI,tm1];rw[qbl f6,Nat.sub_zero];rfl
   rw[z]at t1 t2;have rc0:=hc i (by omega);have rs0:=hs i (by omega);generalize hoc:at0 CL i=oc at *
   generalize hos:at0 SL i=os at *
   simp[qe8,e0,e3,e11,e12,f5,f6,f9,gc,rc0];refine zq t1 ?_;simp[e0,e3,e10,e12,f6,f9,gs,rs0];refine zq t2 ?_;simp;refine WK_up (fun j E2 H2=>E2 0=ivs a/\E2 3=.int .i64 p/\E2 12=.int .i64 ((i:Int)+1)/\E2 10=.ref rs 7 0 (i+1)/\E2 11=.ref rc 7 0 (i+1)/\E2 13=.ptr H'.length 0 0/\E2 14=.ptr (H'.length+1) 0 0/\E2 15=.int .i64 ((j:Int)+2) /\
    H2=H'++[some ⟨7,[(sumI p (tm1 a CL p i) j).v],false,true⟩,some ⟨7,[(sumI p (tm1 a SL p i) j).v],false,true⟩]) i ?_ ?_
   ·simp[e0,e3,e12,e10,e11,ivs]
   ·rintro j E2 H2 hj ⟨i0,i3,i12,i10,i11,i13,i14,i15,rfl⟩;simp only[ivs]at i0;have wC:=qv4 (p:=p) (f:=tm1 a CL p i) tm1_W j;have wS:=qv4 (p:=p) (f:=tm1 a SL p i) tm1_W j;rcases Nat.lt_or_ge j i with jlt|jge
    ·have q1:j+2<a.length:=by omega
     have q2:i-(j+1)<i+1:=by omega
     have q3:(j:Int)+2<=(i:Int)+1:=by omega
     have q4:IntKind.i64.wrap ((i:Int)+1-((j:Int)+2))=((i-(j+1):Nat):Int):=by rw[wrap_i64]<;>omega
     have q5:(0:Int)<=(j:Int)+2:=by omega
     have q6:((j:Int)+2).toNat=j+2:=by omega
     have q7:IntKind.i64.wrap ((j:Int)+2+1)=(j:Int)+1+2:=by rw[wrap_i64]<;>omega
     have rc1:=hc (i-(j+1)) q2;have rs1:=hs (i-(j+1)) q2;have ct:=qkp ((j+2:Nat):Int) a[j+2] (at0 CL (i-(j+1))) p (by omega) (by omega) (wa.2 _ (List.getElem_mem q1)) (at0_W w2);have cu:=qkp ((j+2:Nat):Int) a[j+2] (at0 SL (i-(j+1))) p (by omega) (by omega) (wa.2 _ (List.getElem_mem q1)) (at0_W w1);have st:∀o:List Iv,sumI p (tm1 a o p i) (j+1)=(sumI p (tm1 a o p i) j).add (((nI ((j+2:Nat):Int) ((j+2:Nat):Int)).mul a[j+2] p).mul (at0 o (i-(j+1))) p) p:=fun o=>by
      have e:at0 a (j+1+1)=a[j+2]:=qbl q1;simp only[sumI,tm1];rw[e]
     have st1:=st CL;have st2:=st SL;generalize at0 CL (i-(j+1))=o1 at *
     generalize at0 SL (i-(j+1))=o2 at *
     generalize sumI p (tm1 a CL p i) j=Z1 at *
     generalize sumI p (tm1 a SL p i) j=Z2 at *
     have v1:(((nI ((j+2:Nat):Int) ((j+2:Nat):Int)).mul a[j+2] p).mul o1 p).W:=mul_W;have v2:(((nI ((j+2:Nat):Int) ((j+2:Nat):Int)).mul a[j+2] p).mul o2 p).W:=mul_W;generalize ((nI ((j+2:Nat):Int) ((j+2:Nat):Int)).mul a[j+2] p).mul o1 p=T1 at *
     generalize ((nI ((j+2:Nat):Int) ((j+2:Nat):Int)).mul a[j+2] p).mul o2 p=T2 at *
     have ca:=qta Z1 T1 p wC v1;have cb:=qta Z2 T2 p wS v2;have ecast:((j+2:Nat):Int)=(j:Int)+2:=by omega
     rw[ecast]at ct cu;clear st;simp[qe9,i0,i3,i11,i12,i13,i15,pc,rc1,q1,q2,q3,q4,q5,q6];refine zq ct ?_;simp[i3];refine zq ca ?_;simp[i0,i3,i10,i12,i13,i14,i15,ps,rs1,q1,q2,q4,q5,q6];refine zq cu ?_;simp[i3];refine zq cb ?_;simp[i0,i3,i10,i11,i12,i13,i14,i15,q7,st1,st2,ivs];exact jlt
    ·have hji:j=i:=by omega
     subst hji;have q3:¬(j:Int)+2<=(j:Int)+1:=by omega
     have cw:=qr4 ((j+1:Nat):Int) (by omega) (by omega);have ecast:((j+1:Nat):Int)=(j:Int)+1:=by omega
     have wj:(nI ((j+1:Nat):Int) ((j+1:Nat):Int)).W:=nI_W (by omega) (by omega);have c1:=qq0 (sumI p (tm1 a CL p j) j) (nI ((j+1:Nat):Int) ((j+1:Nat):Int)) p wC wj;have c2:=qq0 (sumI p (tm1 a SL p j) j) (nI ((j+1:Nat):Int) ((j+1:Nat):Int)) p wS wj;rw[show(sumI p (tm1 a CL p j) j).div (nI ((j+1:Nat):Int) ((j+1:Nat):Int)) p=prt a CL p j from rfl]at c1;rw[show(sumI p (tm1 a SL p j) j).div (nI ((j+1:Nat):Int) ((j+1:Nat):Int)) p=prt a SL p j from rfl]at c2;have wP:(prt a SL p j).W:=prt_W;generalize sumI p (tm1 a CL p j) j=Z1 at *
     generalize sumI p (tm1 a SL p j) j=Z2 at *
     generalize nI ((j+1:Nat):Int) ((j+1:Nat):Int)=NJ at *
     generalize prt a CL p j=P at *
     generalize prt a SL p j=Q at *
     have cn:=q36 Q wP;generalize Q.neg=N at *
     rw[ecast]at cw;obtain⟨X1,a1,o1,o2,u1,u2,k1⟩:=q1l (ho.grow [some ⟨7,[Z1.v],false,true⟩,some ⟨7,[Z2.v],false,true⟩,some ⟨7,[P.v],true,true⟩]) (hq.grow [some ⟨7,[Z1.v],false,true⟩,some ⟨7,[Z2.v],false,true⟩,some ⟨7,[P.v],true,true⟩]) hne P (by omega) (y:=.ref (H'.length+2) 7 0 1) (by simp[elems]);have n14:=k1 (H'.length+1) ⟨7,[Z2.v],false,true⟩ (by simp) rfl;have n14':=(qar (List.prefix_refl X1) n14).1;obtain⟨X2,a2,o3,o4,u3,u4,k2⟩:=q1l (o2.grow [some ⟨7,[N.v],true,true⟩]) (o1.grow [some ⟨7,[N.v],true,true⟩]) (by omega) N (by omega) (y:=.ref X1.length 7 0 1) (by simp[elems]);simp only[Iv.v]at a1 a2 n14';simp at a1 a2 n14' u1 u2 u3 u4;simp[qe9,i10,i12,i13,i15,q3];refine zq cw ?_;simp[i3];refine zq c1 ?_;simp[a1,i11,i12,i14,n14'];refine zq cw ?_;simp[i3];refine zq c2 ?_;simp;refine zq cn ?_;simp[a2,i0,i3,i12,g1,ivs];refine⟨hlt,by omega,?_,?_⟩
     ·rw[s1];simpa using o4
     ·rw[s2];simpa using o3
  ·have hin:i=n:=by omega
   subst hin;have f5:¬(i:Int)+1<a.length:=by omega
   have:=qacz (H1:=H) ho hq hne (List.prefix_refl _);simp[qe8,e0,e10,e11,e12,f5];simp at this;rw[<-hn];exact this
set_option maxRecDepth 20000 in
theorem q5z (a:List Iv)(p:Int)(la:LL a):CQ prog qlg [ivs a,.int .i64 p] (.bool true):=by
 refine qag rfl fun H=>?_
 have g:=qae9 p [a] (by simp) (by simp;exact la.len);simp;refine zq q1g ?_;simp;refine qaj (vs:=[.int .i64 p,ivss [a]]) rfl rfl (by simp[prep,frzVs,frzV,ivs,ivss];rfl) g ?_;cases hg:gr21 p [a]
 case true=>simp
 obtain⟨hl,wa⟩:=qtk hg (by simp) la;have c1:=qqz a p wa;have c2:=qvz a p wa;have c3:=q8w a p wa;have c4:=q8v a p wa;have cr:=q63 a;have d1:=fun h=>q61 a p wa h (by omega)
 have d2:=fun h=>qace a p wa h
 have d3:=fun h=>qahi a p wa h (by omega)
 have d4:=fun h=>qahg a p wa h (by omega)
 obtain⟨wS,wC⟩:=qadv (p:=p) wa;have wQ:=qadk (p:=p) wa.1;have wE:=qak2 (p:=p) wa;have wL:=qakv (p:=p) wa.1;generalize (scB a p a.length).1=SL at *
 generalize (scB a p a.length).2=CL at *
 generalize sqrtL a p=QL at *
 generalize expL a p=EL at *
 generalize logL a p=LO at *
 cases ha:areB [a]
 ·simp only[ha,Bool.false_eq_true,if_false]at c1 c2 c3 c4;simp;refine zq c1 ?_;simp;refine zq cr ?_;simp[ha];refine zq c2 ?_;simp[ivs];refine zq c3 ?_;simp[ivs];refine zq c4 ?_;simp[ivs]
 ·have h1:=(are1.1 ha).1;have ha0:0<a.length:=h1;have w0:=wa.2 _ (List.getElem_mem ha0);have s1:=qalh a[0] p w0;have s2:=qalk a[0] p w0;have s3:=qalj a[0] p w0;have s4:=qali a[0] p w0;have d1:=d1 h1;have d2:=d2 h1;have d3:=d3 h1;have d4:=d4 h1;rw[qbl ha0]at d1 d3 d4;simp only[ha,if_true]at c1 c2 c3 c4;generalize bothI a[0] false p=B1 at *
  generalize bothI a[0] true p=B2 at *
  generalize a[0].exp p=B3 at *
  generalize a[0].log p=B4 at *
  simp;refine zq c1 ?_;simp;refine zq cr ?_;simp[ha,ivs,ha0];refine zq s1 ?_;simp[ha0];refine zq s2 ?_;simp;refine zq d1 ?_;simp;refine qaa rfl rfl rfl (qkv wS rfl) ?_;simp;refine qaa rfl rfl rfl (qkv wC rfl) ?_;simp;refine zq c2 ?_;simp;refine zq d2 ?_;simp;refine qaa rfl rfl rfl (qkv wQ rfl) ?_;simp;refine zq c3 ?_;simp[ivs,ha0];refine zq s3 ?_;simp;refine zq d3 ?_;simp;refine qaa rfl rfl rfl (qkv wE rfl) ?_;simp;refine zq c4 ?_;simp[ivs,ha0];refine zq s4 ?_;simp;refine zq d4 ?_;simp;refine qaa rfl rfl rfl (qkv wL rfl) ?_;simp
end Go.Abs.W
