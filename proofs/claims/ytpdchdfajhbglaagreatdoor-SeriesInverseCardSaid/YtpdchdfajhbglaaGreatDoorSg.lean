/- Parts of the proof: FpSf1, FpSf2, FpSf3, FpSf4. -/
import Derived.Test.YtpdchdfajhbglaaGreatDoorSc
import Derived.Test.YtpdchdfajhbglaaGreatDoorSa
import Derived.Test.YtpdchdfajhbglaaGreatDoorXf
import Derived.Test.YtpdchdfajhbglaaGreatDoorCe
namespace Go.Abs.W
def tm1 (a o:List Iv)(p:Int)(m i:Nat):Iv:=((nI ((i+1:Nat):Int) ((i+1:Nat):Int)).mul (at0 a (i+1)) p).mul (at0 o (m-i)) p
def prt (a o:List Iv)(p:Int)(m:Nat):Iv:=(sumI p (tm1 a o p m) m).div (nI ((m+1:Nat):Int) ((m+1:Nat):Int)) p
theorem tm1_W {a o:List Iv}{p:Int}{m i:Nat}:(tm1 a o p m i).W:=mul_W
theorem prt_W {a o:List Iv}{p:Int}{m:Nat}:(prt a o p m).W:=div_W
def expC (a:List Iv)(p:Int)(o:List Iv):Nat->Iv
 |0=>(at0 a 0).exp p
 |m+1=>prt a o p m
def expL (a:List Iv)(p:Int):List Iv:=bld (expC a p) a.length
theorem qad8 {a o:List Iv}{p:Int}(wa:SW a):∀{k:Nat},(expC a p o k).W
 |0=>exp_W (at0_W wa.2)
 |_+1=>prt_W
set_option maxRecDepth 20000 in
theorem fnE1 : prog.fn qgq=some qdi:=rfl
theorem q9h {H:Heap}{g:Nat}(hg:prog.fn g=some qdi){ba bp bo bk rb:Nat}{a o:List Iv}{p:Int}{m:Nat}{blk:List V}(ha:H[ba]?=some (some ⟨1,[ivs a],false,true⟩))(hp:H[bp]?=some (some ⟨1,[.int .i64 p],false,true⟩))
 (ho:H[bo]?=some (some ⟨1,[.ref rb 7 0 (m+1)],false,true⟩)) (hr:H[rb]?=some (some ⟨7,blk,true,true⟩)) (hk:H[bk]?=some (some ⟨1,[.int .i64 ((m+1:Nat):Int)],false,true⟩))
 (wa:∀x ∈ a,x.W) (wo:∀x ∈ o,x.W) (hl:m<=1000000) (hm:m+1<a.length) (hblk:∀i,i<m+1->blk[i]?=some (at0 o i).v)
 (i:Nat) (hi:i<=m):Cb H g [.ptr ba 0 0,.ptr bp 0 0,.ptr bo 0 0,.ptr bk 0 0] [.int .i64 ((1+i:Nat):Int)] (tm1 a o p m i).v:=by
 intro H' hpre;have⟨j,hj⟩:∃j,j=1+i:=⟨_,rfl⟩
 have e:tm1 a o p m i=((nI (j:Int) (j:Int)).mul (at0 a j) p).mul (at0 o (m+1-j)) p:=by unfold tm1;rw[show i+1=j by omega,show m-i=m+1-j by omega]
 rw[e,<-hj];obtain⟨a1,a2⟩:=qap hpre ha;obtain⟨o1,o2⟩:=qap hpre ho;obtain⟨r1,r2⟩:=qap hpre hr;obtain⟨k1,k2⟩:=qap hpre hk;obtain⟨p1,p2⟩:=qap hpre hp;refine⟨by unfold prep;rw[hg];rfl,qf4 hg ?_⟩;have e1:IntKind.i64.wrap ((m:Int)+1-j)=((m+1-j:Nat):Int):=by rw[wrap_i64]<;>omega
 have hg:=hblk (m+1-j) (by omega);have hja:j<a.length:=by omega
 have f1:m+1-j<m+1:=by omega
 have wj:(nI (j:Int) (j:Int)).W:=nI_W (by omega) (by omega);simp;refine qab rfl rfl rfl (qj2 (j:Int) (by omega) (by omega)) ?_;simp[a2,p2,ivs,hja];refine qab rfl rfl rfl (qnk (nI (j:Int) (j:Int)) a[j] p wj (wa _ (List.getElem_mem hja))) ?_;simp[o2,r2,k2,e1,f1,hg,p2];refine qab rfl rfl rfl (qnk ((nI (j:Int) (j:Int)).mul a[j] p) (at0 o (m+1-j)) p mul_W (at0_W wo)) ?_;simp[lim,qco hja]
theorem qanj (a:List Iv)(p:Int)(wa:SW a):CQ prog q25 [ivs a,.int .i64 p] (ivs (if areB [a]=true then expL a p else [])):=by
 have c:=qst [a] (by simp);simp[ivss]at c;refine qag rfl fun H=>?_
 simp[ivs];refine qak rfl rfl (H1:=H++[some ⟨1,[ivs a],false,true⟩,some ⟨1,[.int .i64 p],false,true⟩,some ⟨1,[ivs a],true,false⟩]) (vs:=[.sl [ivs a]]) (by simp[prep,frzVs,frzV,ivs];rfl) c ?_;cases hs:areB [a]
 ·simp
 ·obtain⟨h1,h2⟩:=are1.1 hs;have f1:a.length*88<=281474976710656:=by omega
  have f2:a.length<=9223372036854775807:=by omega
  have ha0:0<a.length:=by omega
  simp[f1,f2,ivs,ha0];refine qab rfl rfl rfl (qaq4 a[0] p (wa.2 _ (List.getElem_mem ha0))) ?_;have hS:a[0].exp p=expC a p [] 0:=by simp[expC,qco ha0]
  have bS:bld (expC a p) 1=[expC a p [] 0]:=rfl;rw[hS];generalize hT:expC a p [] 0=S at *
  simp[qa2];have⟨n,hn⟩:∃n,n+1=a.length:=⟨a.length-1,by omega⟩
  refine WK_up (fun i E H'=>E 2=.ptr H.length 0 0/\E 3=.ptr (H.length+1) 0 0/\E 5=.ptr (H.length+4) 0 0/\∃kb,E 6=.ptr kb 0 0/\H.length+5<=kb/\H'[kb]?=some (some ⟨1,[.int .i64 ((i+1:Nat):Int)],false,true⟩) /\
   ∃rb,H'[H.length+4]?=some (some ⟨1,[.ref rb 7 0 (i+1)],false,true⟩)/\Out (H++[some ⟨1,[ivs a],false,true⟩,some ⟨1,[.int .i64 p],false,true⟩]) H' (.ref rb 7 0 (i+1)) 7 ((bld (expC a p) (i+1)).map Iv.v)) n ?_ ?_
  ·simp[ivs];refine⟨by simp,.inr ⟨H.length+6,[S.v],by simp,by simp,by simp,by simp[bS],by simp⟩⟩
  ·rintro i E H' hi ⟨e2,e3,e5,kb,e6,hkb,hk,rb,hv,ho⟩;have pa:=qap (b:=H.length) (x:=some ⟨1,[ivs a],false,true⟩) ho.pre (by simp);have pp:=qap (b:=H.length+1) (x:=some ⟨1,[.int .i64 p],false,true⟩) ho.pre (by simp);have pv:=qap (List.prefix_refl H') hv;have pk:=qap (List.prefix_refl H') hk;rcases Nat.lt_or_ge i n with hlt|hge
   ·have f3:IntKind.i64.wrap ((i:Int)+1+1)=(i:Int)+1+1:=by rw[wrap_i64]<;>omega
    have f5:(i:Int)+1<a.length:=by omega
    have hob:=qb7 (f:=expC a p) (i+1);have hW:∀x ∈ bld (expC a p) (i+1),x.W:=bld_W fun _ _ _=>qad8 wa
    have pa1:=pa.1;simp only[ivs]at pa1;simp[qi1,e2,e3,e5,e6,pa1,pp.1,pk.1,f5,V.isCell,ivs];have sev:Ev prog (.call qn2 [.int .i64 1,.int .i64 ((i:Int)+1),.int .i64 p,.fn qgq [.ptr H.length 0 0,.ptr (H.length+1) 0 0,.ptr (H.length+4) 0 0,.ptr kb 0 0]] H')
     (.ret (sumI p (tm1 a (bld (expC a p) (i+1)) p i) i).v H'):=by
     have:=qabm (H:=H') (g:=qgq) (caps:=[.ptr H.length 0 0,.ptr (H.length+1) 0 0,.ptr (H.length+4) 0 0,.ptr kb 0 0]) (f:=tm1 a (bld (expC a p) (i+1)) p i) 1 i p (by omega) (fun _ _=>tm1_W) (fun j hj=>?_)
     ·have e:((1+i:Nat):Int)=(i:Int)+1:=by omega
      rw[e]at this;simpa using this
     ·obtain⟨rb1,blk,e1,e2,_⟩:=ho.get (i:=0) (by rw[List.length_map,hob];omega);injection e1 with e1
      subst e1;refine q9h fnE1 pa.1 pp.1 hv e2 hk wa.2 hW (by omega) (by omega) (fun t ht=>?_) j hj;obtain⟨rb',blk',e1',e2',e3'⟩:=ho.get (i:=t) (by rw[List.length_map,hob];omega);injection e1' with e1'
      subst e1';rw[e2]at e2';injection e2' with e2';injection e2' with e2';injection e2' with _ e2'
      rw[e2',e3',List.getElem_map,qco (by omega)]
    refine WL_ev (args:=[.int .i64 1,.int .i64 ((i:Int)+1),.int .i64 p,.fn qgq [.ptr H.length 0 0,.ptr (H.length+1) 0 0,.ptr (H.length+4) 0 0,.ptr kb 0 0]]) rfl rfl rfl sev ?_;have lw:(sumI p (tm1 a (bld (expC a p) (i+1)) p i) i).W:=qnq tm1_W i;have wk:(nI ((i+1:Nat):Int) ((i+1:Nat):Int)).W:=nI_W (by omega) (by omega);have cw:=qj2 ((i+1:Nat):Int) (by omega) (by omega);have hd:(sumI p (tm1 a (bld (expC a p) (i+1)) p i) i).div (nI ((i+1:Nat):Int) ((i+1:Nat):Int)) p=expC a p (bld (expC a p) (i+1)) (i+1):=rfl;generalize sumI p (tm1 a (bld (expC a p) (i+1)) p i) i=L at *
    have cd:=qqp L (nI ((i+1:Nat):Int) ((i+1:Nat):Int)) p lw wk;rw[hd]at cd;generalize nI ((i+1:Nat):Int) ((i+1:Nat):Int)=NK at *
    have ecast:((i+1:Nat):Int)=(i:Int)+1:=by omega
    rw[ecast]at cw;simp[e5,e6,pv.2,pk.2];refine zq cw ?_;simp[e3,pp.2];refine zq cd ?_;obtain⟨v',H'',e',ho',keep⟩:=(ho.grow [some ⟨7,[L.v],false,true⟩]).oneIv2 (expC a p (bld (expC a p) (i+1)) (i+1)) (by simp;omega);simp only[Iv.v]at e';simp at e';have hv':=keep _ _ (pv.2 _) rfl;have hk':=keep _ _ (pk.2 _) rfl;obtain⟨rb',rfl⟩:=ho'.isRef (n:=i+1) (by simp);have n1:¬H.length+4=kb:=by omega
    have l1:=(List.getElem?_eq_some_iff.1 hv').1;simp[e2,e3,e5,e6,e',f3,hv',hk',n1];refine⟨hlt,by omega,rb',?_,?_⟩
    ·rw[List.getElem?_append_left (by simp;omega),List.getElem?_set_self (by omega)]
    ·have:=(ho'.setB (y:=some ⟨1,[.ref rb' 7 0 (i+1+1)],false,true⟩) hv' rfl (by simp)).grow [some ⟨1,[.int .i64 ((i:Int)+1+1)],false,true⟩];simpa[bld,ivs]using this
   ·have hin:i=n:=by omega
    subst hin;have f5:¬(i:Int)+1<a.length:=by omega
    have cr:=ho.cell;have pa1:=pa.1;simp only[ivs]at pa1;generalize V.ref rb 7 0 (i+1)=rv at *
    simp[qi1,e2,e5,e6,hk,f5,hv,cr.2.1,pa1];have:=ho.fin (H1:=H) (List.prefix_append _ _);rw[this,hn];simp[expL]
def accI (s:Iv)(p:Int)(f:Nat->Iv):Nat->Iv
 |0=>s
 |n+1=>(accI s p f n).add (f n) p
theorem qafi {s:Iv}{p:Int}{f:Nat->Iv}(h:s.W):∀n,(accI s p f n).W
 |0=>h
 |_+1=>add_W
def logC (a:List Iv)(p:Int)(o:List Iv):Nat->Iv
 |0=>(at0 a 0).log p
 |m+1=>((at0 a (m+1)).add ((accI (nI 0 0) p (tm1 o a p m) m).div (nI ((m+1:Nat):Int) ((m+1:Nat):Int)) p).neg p).div (at0 a 0) p
def logL (a:List Iv)(p:Int):List Iv:=bld (logC a p) a.length
theorem qadc {a o:List Iv}{p:Int}:∀{k:Nat},(logC a p o k).W
 |0=>log_W
 |_+1=>div_W
theorem qani (a:List Iv)(p:Int)(wa:SW a):CQ prog q24 [ivs a,.int .i64 p] (ivs (if areB [a]=true then logL a p else [])):=by
 have c:=qst [a] (by simp);simp[ivss]at c;refine qag rfl fun H=>?_
 simp[ivs];refine qak rfl rfl (H1:=H++[some ⟨1,[ivs a],true,false⟩]) (vs:=[.sl [ivs a]]) (by simp[prep,frzVs,frzV,ivs];rfl) c ?_;cases hs:areB [a]
 ·simp
 ·obtain⟨h1,h2⟩:=are1.1 hs;have f1:a.length*88<=281474976710656:=by omega
  have f2:a.length<=9223372036854775807:=by omega
  have ha0:0<a.length:=by omega
  simp[f1,f2,ivs,ha0];refine qab rfl rfl rfl (qaq0 a[0] p (wa.2 _ (List.getElem_mem ha0))) ?_;have hS:a[0].log p=logC a p [] 0:=by simp[logC,qco ha0]
  have bS:bld (logC a p) 1=[logC a p [] 0]:=rfl;rw[hS];generalize hT:logC a p [] 0=S at *
  simp[qa2];have⟨n,hn⟩:∃n,n+1=a.length:=⟨a.length-1,by omega⟩
  refine WK_up (fun i E H'=>E 0=ivs a/\E 1=.int .i64 p/\E 6=.int .i64 ((i:Int)+1)/\Out H H' (E 5) 7 ((bld (logC a p) (i+1)).map Iv.v)) n ?_ ?_
  ·simp[ivs];exact⟨by simp,.inr ⟨H.length+3,[S.v],by simp,by simp,by simp,by simp[bS],by simp⟩⟩
  ·rintro i E H' hi ⟨e0,e1,e6,ho⟩;simp only[ivs]at e0;rcases Nat.lt_or_ge i n with hlt|hge
   ·have g1:IntKind.i64.wrap ((i:Int)+1+1)=(i:Int)+1+1:=by rw[wrap_i64]<;>omega
    have f5:(i:Int)+1<a.length:=by omega
    have f6:i+1<a.length:=by omega
    have f7:(0:Int)<=(i:Int)+1:=by omega
    have f8:((i:Int)+1).toNat=i+1:=by omega
    have hob:=qb7 (f:=logC a p) (i+1);have hW:∀x ∈ bld (logC a p) (i+1),x.W:=bld_W fun _ _ _=>qadc
    have c0:=qj2 0 (by omega) (by omega);have w0:(nI 0 0).W:=nI_Wk (by decide);simp[qiz,e0,e6,f5];refine zq c0 ?_;simp;refine WK_up (fun j E2 H2=>E2 0=ivs a/\E2 1=.int .i64 p/\E2 6=.int .i64 ((i:Int)+1)/\E2 5=E 5/\E2 7=.ptr H'.length 0 0/\E2 8=.int .i64 ((j:Int)+1) /\
     H2=H'++[some ⟨7,[(accI (nI 0 0) p (tm1 (bld (logC a p) (i+1)) a p i) j).v],false,true⟩]) i ?_ ?_
    ·simp[e0,e1,e6,accI,ivs]
    ·rintro j E2 H2 hj ⟨i0,i1,i6,i5,i7,i8,rfl⟩;simp only[ivs]at i0;have wS:=qafi (p:=p) (f:=tm1 (bld (logC a p) (i+1)) a p i) w0 j;rcases Nat.lt_or_ge j i with jlt|jge
     ·have q1:j+1<i+1:=by omega
      have q2:i-j<a.length:=by omega
      have q3:(j:Int)+1<(i:Int)+1:=by omega
      have q4:IntKind.i64.wrap ((i:Int)+1-((j:Int)+1))=((i-j:Nat):Int):=by rw[wrap_i64]<;>omega
      have q5:(0:Int)<=(j:Int)+1:=by omega
      have q6:((j:Int)+1).toNat=j+1:=by omega
      have q7:IntKind.i64.wrap ((j:Int)+1+1)=(j:Int)+1+1:=by rw[wrap_i64]<;>omega
      have cw:=qj2 ((j+1:Nat):Int) (by omega) (by omega);have ecast:((j+1:Nat):Int)=(j:Int)+1:=by omega
      have wj:(nI ((j+1:Nat):Int) ((j+1:Nat):Int)).W:=nI_W (by omega) (by omega);have c1:=qnk (nI ((j+1:Nat):Int) ((j+1:Nat):Int)) (at0 (bld (logC a p) (i+1)) (j+1)) p wj (at0_W hW);have c2:=qnk ((nI ((j+1:Nat):Int) ((j+1:Nat):Int)).mul (at0 (bld (logC a p) (i+1)) (j+1)) p) a[i-j] p mul_W (wa.2 _ (List.getElem_mem q2));have s1:accI (nI 0 0) p (tm1 (bld (logC a p) (i+1)) a p i) (j+1)=(accI (nI 0 0) p (tm1 (bld (logC a p) (i+1)) a p i) j).add (((nI ((j+1:Nat):Int) ((j+1:Nat):Int)).mul (at0 (bld (logC a p) (i+1)) (j+1)) p).mul a[i-j] p) p:=by
       simp only[accI,tm1];rw[qco q2]
      obtain⟨rb,blk,r1,r2,r3⟩:=ho.get (i:=j+1) (by rw[List.length_map,hob];omega);rw[List.length_map,hob]at r1;rw[List.getElem_map]at r3;have r4:=qap (List.prefix_refl H') r2;have r5:(bld (logC a p) (i+1))[j+1]'(by omega)=at0 (bld (logC a p) (i+1)) (j+1):=(qco _).symm;rw[r5]at r3;generalize at0 (bld (logC a p) (i+1)) (j+1)=o at *
      generalize accI (nI 0 0) p (tm1 (bld (logC a p) (i+1)) a p i) j=S at *
      generalize nI ((j+1:Nat):Int) ((j+1:Nat):Int)=NJ at *
      rw[ecast]at cw;have ca:=qwu S ((NJ.mul o p).mul a[i-j] p) p wS mul_W;simp[qi0,i6,i7,i8,q3];refine zq cw ?_;simp[i1,i5,r1,r4.2,r3,i8,q5,q6,q1];refine zq c1 ?_;simp[i0,i1,i6,i8,q4,q2];refine zq c2 ?_;simp[i1];refine zq ca ?_;simp[i0,i1,i6,i5,r1,i7,i8,q7,s1,ivs];exact jlt
     ·have hji:j=i:=by omega
      subst hji;have q3:¬(j:Int)+1<(j:Int)+1:=by omega
      have cw:=qj2 ((j+1:Nat):Int) (by omega) (by omega);have ecast:((j+1:Nat):Int)=(j:Int)+1:=by omega
      have wj:(nI ((j+1:Nat):Int) ((j+1:Nat):Int)).W:=nI_W (by omega) (by omega);have wa1:=wa.2 _ (List.getElem_mem f6);have wa0:=wa.2 _ (List.getElem_mem ha0);have c1:=qqp (accI (nI 0 0) p (tm1 (bld (logC a p) (j+1)) a p j) j) (nI ((j+1:Nat):Int) ((j+1:Nat):Int)) p wS wj;have c2:=qaf1 a[j+1] ((accI (nI 0 0) p (tm1 (bld (logC a p) (j+1)) a p j) j).div (nI ((j+1:Nat):Int) ((j+1:Nat):Int)) p) p wa1 div_W;have hd:(a[j+1].add ((accI (nI 0 0) p (tm1 (bld (logC a p) (j+1)) a p j) j).div (nI ((j+1:Nat):Int) ((j+1:Nat):Int)) p).neg p).div a[0] p=logC a p (bld (logC a p) (j+1)) (j+1):=by
       simp only[logC];rw[qco f6,qco ha0]
      have c3:=qqp (a[j+1].add ((accI (nI 0 0) p (tm1 (bld (logC a p) (j+1)) a p j) j).div (nI ((j+1:Nat):Int) ((j+1:Nat):Int)) p).neg p) a[0] p add_W wa0;rw[hd]at c3;generalize accI (nI 0 0) p (tm1 (bld (logC a p) (j+1)) a p j) j=S at *
      generalize nI ((j+1:Nat):Int) ((j+1:Nat):Int)=NJ at *
      generalize a[j+1].add (S.div NJ p).neg p=T at *
      rw[ecast]at cw;simp[qi0,i6,i7,i8,i0,f6,f7,f8];refine zq cw ?_;simp[i1];refine zq c1 ?_;simp[i1];refine zq c2 ?_;simp[i0,i1,i5,i7,ha0];refine zq c3 ?_;obtain⟨v',H'',e',ho'⟩:=(ho.grow [some ⟨7,[T.v],false,true⟩]).oneIv (logC a p (bld (logC a p) (j+1)) (j+1)) (by simp;omega);simp only[Iv.v]at e';simp at e';simp[i0,i1,i6,e',g1,ivs];refine⟨hlt,?_⟩;simpa[bld]using ho'
   ·have hin:i=n:=by omega
    subst hin;have f5:¬(i:Int)+1<a.length:=by omega
    have cr:=ho.cell;simp[qiz,e0,e6,f5];have:=ho.fin (H1:=H) (List.prefix_refl _);rw[this,hn];simp[logL]
def scC (a:List Iv)(p:Int)(o:List Iv × List Iv):Nat->Iv × Iv
 |0=>(bothI (at0 a 0) false p,bothI (at0 a 0) true p)
 |m+1=>(prt a o.2 p m,(prt a o.1 p m).neg)
def scB (a:List Iv)(p:Int):Nat->List Iv × List Iv
 |0=>([],[])
 |n+1=>((scB a p n).1++[(scC a p (scB a p n) n).1],(scB a p n).2++[(scC a p (scB a p n) n).2])
theorem scC_W {a:List Iv}{o:List Iv × List Iv}{p:Int}(wa:SW a):∀{k:Nat},(scC a p o k).1.W/\(scC a p o k).2.W
 |0=>⟨qy4 (at0_W wa.2),qy4 (at0_W wa.2)⟩
 |_+1=>⟨prt_W,neg_W prt_W⟩
theorem scB_W {a:List Iv}{p:Int}(wa:SW a):∀n,(∀x ∈ (scB a p n).1,x.W)/\∀x ∈ (scB a p n).2,x.W
 |0=>by simp[scB]
 |n+1=>by
  obtain⟨h1,h2⟩:=scB_W (p:=p) wa n;constructor<;>intro x hx<;>simp only[scB,List.mem_append,List.mem_singleton]at hx<;>rcases hx with hx|rfl
  ·exact h1 x hx
  ·exact(scC_W wa).1
  ·exact h2 x hx
  ·exact(scC_W wa).2
theorem qnr {a:List Iv}{p:Int}:∀n,(scB a p n).1.length=n/\(scB a p n).2.length=n
 |0=>⟨rfl,rfl⟩
 |n+1=>by simp[scB,(qnr (a:=a) (p:=p) n).1,(qnr (a:=a) (p:=p) n).2]
theorem qaho {n:Nat}{l:List Nat}:V.lowB n (lim l)=true:=rfl
theorem qac9 {n:Nat}{b:Bool}:V.lowB n (.bool b)=true:=rfl
theorem qahp {n:Nat}{k:IntKind}{i:Int}:V.lowB n (.int k i)=true:=rfl
theorem qabe {H0 H:Heap}{bv bw n m:Nat}{l l2:List Iv}(h:Out H0 H (.ref bv 7 0 n) 7 (l.map Iv.v))(h2:Out H0 H (.ref bw 7 0 m) 7 (l2.map Iv.v))(hne:bv≠bw)(x:Iv)(hb:l.length+1<=1000000000){y:V}(el:elems H y=some [x.v]) :
 ∃H',qa2 7 88 (.ref bv 7 0 n) y H=some (.ref H.length 7 0 (n+1),H')/\Out H0 H' (.ref H.length 7 0 (n+1)) 7 ((l++[x]).map Iv.v) /\
  Out H0 H' (.ref bw 7 0 m) 7 (l2.map Iv.v)/\bw<H.length/\H'.length=H.length+1/\∀(c:Nat) (x:Blk),H[c]?=some (some x)->x.arr=false->H'[c]?=some (some x):=by
 rcases h.val with ⟨_,e⟩|⟨b,blk,h1,e,h3,h4,h5⟩
 ·cases e
 injection e with e1 _ _ e2
 subst e1;rcases h2.val with ⟨_,e⟩|⟨b',blk',k1,e,k3,k4,k5⟩
 ·cases e
 injection e with e1 _ _ e3
 subst e1;have lt1:=(List.getElem?_eq_some_iff.1 h3).1;have lt2:=(List.getElem?_eq_some_iff.1 k3).1;have lim:qa3 (l.length+1) 88=true:=by simp[qa3];omega
 rw[List.length_map]at e2 e3 h5 k5;subst e2 e3;refine⟨(List.set H bv none++[some (Blk.mk 7 (l.map Iv.v++[x.v]) true true)]:Heap),?_,?_,?_,lt2,by simp,?_⟩
 ·have hd:qds 7 [x.v]=true:=by simp
  rw[List.length_map]at h4;unfold qa2;rw[el];simp only[Option.bind_some,hd,if_true,h3];simp[h5,h4,lim]
 ·refine⟨qe1 (qce h.pre h1),.inr ⟨H.length,l.map Iv.v++[x.v],h.pre.length_le,by simp,?_,by rw[List.take_of_length_le];simp;simp,by simp⟩⟩;rw[List.getElem?_append_right (by simp)];simp
 ·refine⟨qe1 (qce h.pre h1),.inr ⟨bw,blk',k1,by simp,?_,k4,by rw[List.length_map];exact k5⟩⟩;rw[List.getElem?_append_left (by simpa using lt2),List.getElem?_set_ne hne];exact k3
 ·intro c y hc hy;have lt3:=(List.getElem?_eq_some_iff.1 hc).1;rw[List.getElem?_append_left (by simpa using lt3),List.getElem?_set_ne]
  ·exact hc
  ·intro e;subst e;rw[h3]at hc;injection hc with hc;injection hc with hc
   rw[<-hc]at hy;cases hy
theorem qakm {H0 H1 H:Heap}{bv bw n m:Nat}{l l2:List V}(h:Out H0 H (.ref bv 7 0 n) 7 l)(h2:Out H0 H (.ref bw 7 0 m) 7 l2)(hne:bv≠bw)(hp:H1 <+: H0) :
 Go.Abs.fin false H1.length H (.tup [.ref bv 7 0 n,.ref bw 7 0 m])=some (.tup [.sl l,.sl l2],H1):=by
 rcases h.val with ⟨_,e⟩|⟨b,blk,h1,e,h3,h4,h5⟩
 ·cases e
 injection e with e1 _ _ e2
 subst e1;rcases h2.val with ⟨_,e⟩|⟨b',blk',k1,e,k3,k4,k5⟩
 ·cases e
 injection e with e1 _ _ e3
 subst e1;subst e2 e3;have p1:qbp H (.ref bv 7 0 l.length)=some (.sl l,H.set bv (some ⟨7,blk,true,false⟩)):=by simp[qbp,frzV,frzC,h3,h4,h5,V.pure,V.cellPure]
 have k3':(H.set bv (some ⟨7,blk,true,false⟩))[bw]?=some (some ⟨7,blk',true,true⟩):=by rw[List.getElem?_set_ne hne];exact k3
 have p2:qbp (H.set bv (some ⟨7,blk,true,false⟩)) (.ref bw 7 0 l2.length)=some (.sl l2,(H.set bv (some ⟨7,blk,true,false⟩)).set bw (some ⟨7,blk',true,false⟩)):=by simp[qbp,frzV,frzC,k3',k4,k5,V.pure,V.cellPure]
 have t:=qff (qce (b:=bw) (x:=some ⟨7,blk',true,false⟩) (qce (b:=bv) (x:=some ⟨7,blk,true,false⟩) (hp.trans h.pre) (Nat.le_trans hp.length_le h1)) (Nat.le_trans hp.length_le k1));unfold Go.Abs.fin;simp only[Bool.false_eq_true,if_false,qcj,p1,p2,Option.bind_some,t]
set_option maxRecDepth 20000 in
theorem fnS1 : prog.fn qc4=some qdi:=rfl
theorem qafv {H:Heap}{ba bp bk rb:Nat}{a o:List Iv}{p:Int}{m:Nat}{blk:List V}(ha:H[ba]?=some (some ⟨1,[ivs a],false,true⟩))(hp:H[bp]?=some (some ⟨1,[.int .i64 p],false,true⟩))
 (hr:H[rb]?=some (some ⟨7,blk,true,true⟩)) (hk:H[bk]?=some (some ⟨1,[.int .i64 ((m+1:Nat):Int)],false,true⟩))
 (wa:∀x ∈ a,x.W) (wo:∀x ∈ o,x.W) (hl:m<=100000) (hm:m+1<a.length) (hblk:∀i,i<m+1->blk[i]?=some (at0 o i).v) :
 Ev prog (.call qrv [.ref rb 7 0 (m+1),.ptr bk 0 0,.ptr bp 0 0,.ptr ba 0 0] H) (.ret (prt a o p m).v H):=by
 refine qf4 rfl ?_;have pa:=qap (List.prefix_refl H) ha;have pp:=qap (List.prefix_refl H) hp;have pr:=qap (List.prefix_refl H) hr;have pk:=qap (List.prefix_refl H) hk;have ecast:((m+1:Nat):Int)=(m:Int)+1:=by omega
 rw[ecast]at pk;simp[pk.2,pp.2,V.isCell];have⟨G,hG⟩:∃G,G=H++[some ⟨1,[.ref rb 7 0 (m+1)],false,true⟩,some ⟨7,[.agg [.bool false,.nil,.int .i64 0,.bool false,.nil,.int .i64 0,.bool false]],false,true⟩]:=⟨_,rfl⟩
 have sev:Ev prog (.call qn2 [.int .i64 1,.int .i64 ((m:Int)+1),.int .i64 p,.fn qc4 [.ptr ba 0 0,.ptr bp 0 0,.ptr H.length 0 0,.ptr bk 0 0]] G)
  (.ret (sumI p (tm1 a o p m) m).v G):=by
  have:=qabm (H:=G) (g:=qc4) (caps:=[.ptr ba 0 0,.ptr bp 0 0,.ptr H.length 0 0,.ptr bk 0 0]) (f:=tm1 a o p m) 1 m p (by omega) (fun _ _=>tm1_W) (fun j hj=>by
   rw[hG];exact q9h fnS1 (pa.2 _) (pp.2 _) (by simp) (pr.2 _) (by rw[ecast];exact pk.2 _) wa wo (by omega) hm hblk j hj)
  have e:((1+m:Nat):Int)=(m:Int)+1:=by omega
  rw[e]at this;simpa using this
 rw[<-hG];refine WL_ev (args:=[.int .i64 1,.int .i64 ((m:Int)+1),.int .i64 p,.fn qc4 [.ptr ba 0 0,.ptr bp 0 0,.ptr H.length 0 0,.ptr bk 0 0]]) rfl rfl rfl sev ?_;have lw:(sumI p (tm1 a o p m) m).W:=qnq tm1_W m;have wk:(nI ((m+1:Nat):Int) ((m+1:Nat):Int)).W:=nI_W (by omega) (by omega);have cw:=qj2 ((m+1:Nat):Int) (by omega) (by omega);have cd:=qqp (sumI p (tm1 a o p m) m) (nI ((m+1:Nat):Int) ((m+1:Nat):Int)) p lw wk;rw[show(sumI p (tm1 a o p m) m).div (nI ((m+1:Nat):Int) ((m+1:Nat):Int)) p=prt a o p m from rfl]at cd;generalize sumI p (tm1 a o p m) m=L at *
 generalize nI ((m+1:Nat):Int) ((m+1:Nat):Int)=NK at *
 rw[ecast]at cw;subst hG;simp[pk.2];refine zq cw ?_;simp[pp.2];refine zq cd ?_;simp
theorem qakb {H0 H:Heap}{b n:Nat}{l:List Iv}(h:Out H0 H (.ref b 7 0 n) 7 (l.map Iv.v))(hn:l.length=n):∃blk,H[b]?=some (some ⟨7,blk,true,true⟩)/\∀t,t<n->blk[t]?=some (at0 l t).v:=by
 rcases h.val with ⟨e,e2⟩|⟨b',blk,h1,e,h3,h4,h5⟩
 ·cases e2
 injection e with e1 _ _ _
 subst e1;refine⟨blk,h3,fun t ht=>?_⟩;rw[List.length_map]at h4;have e:(l.map Iv.v)[t]?=some (at0 l t).v:=by rw[List.getElem?_map,List.getElem?_eq_getElem (show t<l.length by omega),qco (show t<l.length by omega)];rfl
 have:(blk.take l.length)[t]?=(l.map Iv.v)[t]?:=by rw[h4]
 rw[List.getElem?_take_of_lt (by omega),e]at this;exact this
set_option maxRecDepth 20000 in
set_option maxHeartbeats 1000000 in
theorem qaax (a:List Iv)(p:Int)(wa:SW a):CQ prog qu9 [ivs a,.int .i64 p] (.tup [ivs (if areB [a]=true then(scB a p a.length).1 else []),ivs (if areB [a]=true then(scB a p a.length).2 else [])]):=by
 have c:=qst [a] (by simp);simp[ivss]at c;refine qag rfl fun H=>?_
 simp[ivs];refine qak rfl rfl (H1:=H++[some ⟨1,[ivs a],false,true⟩,some ⟨1,[.int .i64 p],false,true⟩,some ⟨1,[ivs a],true,false⟩]) (vs:=[.sl [ivs a]]) (by simp[prep,frzVs,frzV,ivs];rfl) c ?_;cases hs:areB [a]
 ·simp
 ·obtain⟨h1,h2⟩:=are1.1 hs;have f1:a.length*88<=281474976710656:=by omega
  have f2:a.length<=9223372036854775807:=by omega
  have ha0:0<a.length:=by omega
  have cs:=qaqw a[0] p (wa.2 _ (List.getElem_mem ha0));have cc:=qaq8 a[0] p (wa.2 _ (List.getElem_mem ha0));have b1:(scB a p 1).1=[bothI a[0] false p]:=by simp[scB,scC,qco ha0]
  have b2:(scB a p 1).2=[bothI a[0] true p]:=by simp[scB,scC,qco ha0]
  generalize bothI a[0] false p=S at *
  generalize bothI a[0] true p=C at *
  simp[f1,f2,ivs,ha0];refine zq cs ?_;simp[qa2,f1,f2,ha0];refine zq cc ?_;simp[qa2];have⟨n,hn⟩:∃n,n+1=a.length:=⟨a.length-1,by omega⟩
  refine WK_up (fun i E H'=>E 2=.ptr H.length 0 0/\E 3=.ptr (H.length+1) 0 0/\∃kb,E 6=.ptr kb 0 0/\H.length+2<=kb/\H'[kb]?=some (some ⟨1,[.int .i64 ((i+1:Nat):Int)],false,true⟩) /\
   ∃r4 r5,E 4=.ref r4 7 0 (i+1)/\E 5=.ref r5 7 0 (i+1)/\r4≠r5/\Out (H++[some ⟨1,[ivs a],false,true⟩,some ⟨1,[.int .i64 p],false,true⟩]) H' (.ref r4 7 0 (i+1)) 7 ((scB a p (i+1)).1.map Iv.v) /\
    Out (H++[some ⟨1,[ivs a],false,true⟩,some ⟨1,[.int .i64 p],false,true⟩]) H' (.ref r5 7 0 (i+1)) 7 ((scB a p (i+1)).2.map Iv.v)) n ?_ ?_
  ·simp[ivs];refine⟨⟨by simp,.inr ⟨H.length+5,[S.v],by simp,by simp[b1],by simp,by simp[b1],by simp[b1]⟩⟩,⟨by simp,.inr ⟨H.length+8,[C.v],by simp,by simp[b2],by simp,by simp[b2],by simp[b2]⟩⟩⟩
  ·rintro i E H' hi ⟨e2,e3,kb,e6,hkb,hk,r4,r5,e4,e5,hne,ho,hq⟩;have pa:=qap (b:=H.length) (x:=some ⟨1,[ivs a],false,true⟩) ho.pre (by simp);have pp:=qap (b:=H.length+1) (x:=some ⟨1,[.int .i64 p],false,true⟩) ho.pre (by simp);have pk:=qap (List.prefix_refl H') hk;have pa1:=pa.1;simp only[ivs]at pa1;obtain⟨l1,l2⟩:=qnr (a:=a) (p:=p) (i+1);rcases Nat.lt_or_ge i n with hlt|hge
   ·have f3:IntKind.i64.wrap ((i:Int)+1+1)=(i:Int)+1+1:=by rw[wrap_i64]<;>omega
    have f5:(i:Int)+1<a.length:=by omega
    obtain⟨w1,w2⟩:=scB_W (p:=p) wa (i+1);obtain⟨blk,g1,g2⟩:=qakb hq l2;obtain⟨blk',g3,g4⟩:=qakb ho l1;have q1:=qafv pa.1 pp.1 g1 hk wa.2 w2 (by omega) (by omega) g2;have q2:=qafv pa.1 pp.1 g3 hk wa.2 w1 (by omega) (by omega) g4;have s1:(scB a p (i+1+1)).1=(scB a p (i+1)).1++[prt a (scB a p (i+1)).2 p i]:=rfl;have s2:(scB a p (i+1+1)).2=(scB a p (i+1)).2++[(prt a (scB a p (i+1)).1 p i).neg]:=rfl;have wP:(prt a (scB a p (i+1)).1 p i).W:=prt_W;generalize prt a (scB a p (i+1)).2 p i=P at *
    generalize prt a (scB a p (i+1)).1 p i=Q at *
    have cn:=qaf3 Q wP;generalize Q.neg=N at *
    simp[qfu,e2,e3,e5,e6,pa1,pk.1,f5,V.isCell];refine WL_ev (args:=[.ref r5 7 0 (i+1),.ptr kb 0 0,.ptr (H.length+1) 0 0,.ptr H.length 0 0]) rfl rfl rfl q1 ?_;simp[e4];refine WL_ev (args:=[.ref r4 7 0 (i+1),.ptr kb 0 0,.ptr (H.length+1) 0 0,.ptr H.length 0 0]) rfl rfl rfl q2 ?_;simp;refine zq cn ?_;obtain⟨X1,a1,o1,o2,t1,t2,k1⟩:=qabe (ho.grow [some ⟨7,[P.v],false,true⟩,some ⟨7,[N.v],false,true⟩]) (hq.grow [some ⟨7,[P.v],false,true⟩,some ⟨7,[N.v],false,true⟩]) hne P (by omega) (y:=.sl [P.v]) rfl;have n9:=k1 (H'.length+1) ⟨7,[N.v],false,true⟩ (by simp) rfl;have nk:=k1 kb _ (pk.2 _) rfl;obtain⟨X2,a2,o3,o4,t3,t4,k2⟩:=qabe o2 o1 (by omega) N (by omega) (y:=.sl [N.v]) rfl;have nk2:=k2 kb _ nk rfl;simp only[Iv.v]at a1 a2 n9;simp at a1 a2 n9 t1 t2 t3 t4;simp[e2,e3,e4,e5,e6,a1,n9,qaho,qac9,qahp,a2,nk2];have lk:=(List.getElem?_eq_some_iff.1 hk).1;refine⟨hlt,by omega,f3,by omega,?_,?_⟩
    ·rw[f3,s1];have:=o4.grow [some ⟨1,[.int .i64 ((i:Int)+1+1)],false,true⟩];simpa using this
    ·rw[f3,s2];have:=o3.grow [some ⟨1,[.int .i64 ((i:Int)+1+1)],false,true⟩];simpa using this
   ·have hin:i=n:=by omega
    subst hin;have f5:¬(i:Int)+1<a.length:=by omega
    have:=qakm (H1:=H) ho hq hne (List.prefix_append _ _);simp[qfu,e2,e4,e5,e6,hk,f5,pa1];simp at this;rw[<-hn];exact this
theorem qakh {F:Iv->Iv->Iv}{a b:List Iv}(wa:SW a)(h:∀x y:Iv,x.W->y.W->(F x y).W)(wb:SW b):SW (zipI F a b):=
 ⟨by unfold zipI;split;rw[qb7];exact wa.1;simp,qan8 fun x hx y hy=>h x y (wa.2 x hx) (wb.2 y hy)⟩
theorem qaj2 {a:List Iv}{p:Int}(w:SW a):SW (expL a p):=⟨by unfold expL;rw[qb7];exact w.1,bld_W fun _ _ _=>qad8 w⟩
theorem qajr {a:List Iv}{p:Int}(w:a.length<=1000000):SW (logL a p):=⟨by unfold logL;rw[qb7];exact w,bld_W fun _ _ _=>qadc⟩
theorem qaop {a:List Iv}{p:Int}(w:SW a):SW (scB a p a.length).1/\SW (scB a p a.length).2:=by
 obtain⟨l1,l2⟩:=qnr (a:=a) (p:=p) a.length;obtain⟨w1,w2⟩:=scB_W (p:=p) w a.length;exact⟨⟨by rw[l1];exact w.1,w1⟩,⟨by rw[l2];exact w.1,w2⟩⟩
end Go.Abs.W
