/- Parts of the proof: FpSe0, FpSe1, FpSe2, FpSe3, FpSe4, FpSe5, FpSe6, FpSe7, FpSe8, FpSe9. -/
import Derived.Test.YtpdchdfajhbglaaGreatDoorHh
import Derived.Test.YtpdchdfajhbglaaGreatDoorFi
import Derived.Test.YtpdchdfajhbglaaGreatDoorFe
namespace Go.Abs.W
@[simp] theorem qapi {l:List Iv}:(ivs l).cells=[ivs l]:=rfl
def ivss (l:List (List Iv)):V:=.sl (l.map ivs)
def serB (n:Nat)(a:List Iv):Bool:=decide (1<=a.length)&&decide (a.length<=17)&&decide (a.length=n)
def areB : List (List Iv)->Bool
 | []=>true
 |a :: l=>(a :: l).all (serB a.length)
theorem qst (l:List (List Iv))(hl:l.length<=1000000):CQ prog q23 [ivss l] (.bool (areB l)):=by
 refine qag rfl fun H=>?_
 simp[ivss];refine WK_up (fun i E H'=>H'=H/\E 0=ivss l/\E 5=ivss l/\E 6=.int .i64 l.length/\E 7=.int .i64 i/\(∀j x,j<i->l[j]?=some x->serB (l.headD []).length x=true)) l.length ?_ ?_
 ·simp[ivss]
 ·rintro i E H' hi ⟨rfl,h0,h5,h6,h7,hp⟩;simp only[ivss]at h0 h5 ⊢;rcases Nat.lt_or_ge i l.length with hlt|hge
  ·have e2:IntKind.i64.wrap ((i:Int)+1)=((i+1:Nat):Int):=by rw[wrap_i64]<;>omega
   obtain⟨a,t,rfl⟩:∃a t,l=a :: t:=by
    cases l with
    |nil=>simp at hlt
    |cons a t=>exact⟨a,t,rfl⟩
   have hx:∃x,(a :: t)[i]?=some x:=⟨_,List.getElem?_eq_getElem hlt⟩
   obtain⟨x,hx⟩:=hx;have hx2:(List.map ivs (a :: t))[i]?=some (ivs x):=by rw[List.getElem?_map,hx];rfl
   have nope:serB a.length x=false->areB (a :: t)=false:=by
    intro h;simp only[areB];rw[List.all_eq_false];exact⟨x,List.mem_of_getElem? hx,by rw[h];simp⟩
   have yep:serB a.length x=true->∀(j:Nat) (y:List Iv),j<i+1->(a :: t)[j]?=some y->serB a.length y=true:=by
    intro h j y hj hy;rcases Nat.lt_or_ge j i with hji|hji
    ·exact hp j y hji hy
    ·have:j=i:=by omega
     subst this;rw[hx]at hy;injection hy with hy;rw[<-hy];exact h
   rw[List.map_cons]at hx2;simp only[List.length_cons]at h6 hlt;have f0:(i:Int)<(t.length:Int)+1:=by omega
   simp[qiv,h5,h6,h7,f0,hx2];by_cases c1:x.length<1
   ·have n:=nope (by simp[serB];omega);have c1':(x.length:Int)<1:=by omega
    simp[ivs,c1',n]
   ·have c1':¬(x.length:Int)<1:=by omega
    by_cases c2:17<x.length
    ·have n:=nope (by simp[serB];omega);have c2':(17:Int)<x.length:=by omega
     simp[ivs,c1',c2',n]
    ·have c2':¬(17:Int)<x.length:=by omega
     by_cases c3:x.length=a.length
     ·have y:=yep (by simp[serB,c3];omega);have c3':(x.length:Int)=a.length:=by omega
      simp[ivs,h0,h5,h6,h7,c3',e2];exact⟨fun h=>by omega,fun _=>⟨fun h=>by omega,fun _=>⟨hlt,y⟩⟩⟩
     ·have n:=nope (by simp[serB,c3]);have c3':¬(x.length:Int)=a.length:=by omega
      simp[ivs,h0,c1',c2',c3',n]
  ·have hin:i=l.length:=by omega
   subst hin;have e1:areB l=true:=by
    cases l with
    |nil=>rfl
    |cons a t=>
     simp only[areB];rw[List.all_eq_true];intro x hx;obtain⟨j,hj,rfl⟩:=List.getElem_of_mem hx;exact hp j _ hj (List.getElem?_eq_getElem _)
   simp[qiv,h6,h7,e1]
theorem qj2 (k:Int)(h1:-4611686018427387904<=k)(h2:k<=4611686018427387904):CQ prog qwz [.int .i64 k] (nI k k).v:=by
 refine qag rfl fun H=>?_
 have c:=qlk k h1 h2;rw[<-show nD k=Dy.of (decide (k<0)) k.natAbs 0 from rfl]at c;have o:(nD k).Ok:=nD_ok (by omega);have d:=qjz (nD k) o.w;rw[o.valid]at d;rw[if_pos rfl,show Iv.pt (nD k)=nI k k from rfl]at d;simp;refine zq c ?_;simp;refine zq d ?_;simp[lim]
def sumI (p:Int)(f:Nat->Iv):Nat->Iv
 |0=>f 0
 |n+1=>(sumI p f n).add (f (n+1)) p
theorem qnq {p:Int}{f:Nat->Iv}(h:(f 0).W):∀n,(sumI p f n).W
 |0=>h
 |_+1=>add_W
theorem qabm {H:Heap}{g:Nat}{caps:List V}{f:Nat->Iv}(a n:Nat)(p:Int)(hn:a+n<=1000000)(hw:∀i,i<=n->(f i).W)(h:∀i:Nat,i<=n->Cb H g caps [.int .i64 ((a+i:Nat):Int)] (f i).v) :
 Ev prog (.call qn2 [.int .i64 a,.int .i64 ((a+n:Nat):Int),.int .i64 p,.fn g caps] H) (.ret (sumI p f n).v H):=by
 refine qf4 rfl ?_;simp;refine WL_cb (h 0 (by omega)) (qe1 (List.prefix_refl H)) rfl (by simp) ?_;simp;refine WK_up (fun i E H'=>H'=H++[some ⟨7,[.agg [.bool false,.nil,.int .i64 0,.bool false,.nil,.int .i64 0,.bool false]],false,true⟩,some ⟨7,[(sumI p f i).v],false,true⟩]/\E 1=.int .i64 ((a+n:Nat):Int)/\E 2=.int .i64 p/\E 3=.fn g caps/\E 8=.ptr H.length 0 0/\E 9=.ptr (H.length+1) 0 0/\E 10=.int .i64 ((a+i+1:Nat):Int)) n ?_ ?_
 ·have e2:IntKind.i64.wrap ((a:Int)+1)=(a:Int)+1:=by rw[wrap_i64]<;>omega
  simp[sumI,e2]
 ·rintro i E H' hi ⟨rfl,h1,h2,h3,h8,h9,h10⟩;rcases Nat.lt_or_ge i n with hlt|hge
  ·have e2:IntKind.i64.wrap ((a:Int)+i+1+1)=(a:Int)+i+1+1:=by rw[wrap_i64]<;>omega
   have f0:(a:Int)+i+1<=a+n:=by omega
   simp[qiu,h1,h3,h9,h10,f0];refine WL_cb (h (i+1) (by omega)) (qe1 (List.prefix_refl H)) rfl (by simp;omega) ?_;simp[h2];refine qab rfl rfl rfl (qwu (sumI p f i) (f (i+1)) p (qnq (hw 0 (by omega)) i) (hw (i+1) (by omega))) ?_;simp[h1,h2,h3,h8,h9,h10,e2,sumI];exact⟨hlt,by omega⟩
  ·have hin:i=n:=by omega
   subst hin;have f0:¬(a:Int)+i+1<=a+i:=by omega
   simp[qiu,h1,h8,h9,h10,f0]
theorem Out.new {H X:Heap}{blk:List V}{z:Nat}:Out H (H++X++[some ⟨z,blk,true,true⟩]) (.ref (H++X).length z 0 0) z []:=
 ⟨by rw[List.append_assoc];exact List.prefix_append _ _,.inr ⟨_,blk,by simp,rfl,by rw[List.getElem?_append_right (by simp)];simp,rfl,by simp⟩⟩
def bld (f:List Iv->Nat->Iv):Nat->List Iv
 |0=>[]
 |n+1=>bld f n++[f (bld f n) n]
@[simp] theorem qb7 {f:List Iv->Nat->Iv}:∀n,(bld f n).length=n
 |0=>rfl
 |n+1=>by simp[bld,qb7 n]
theorem q55 {f:List Iv->Nat->Iv}:∀{n i:Nat} (h:i<(bld f n).length),(bld f n)[i]=f (bld f i) i
 |0,i,h=>by simp[bld]at h
 |n+1,i,h=>by
  simp only[bld]at h ⊢;rcases Nat.lt_or_ge i n with h1|h1
  ·rw[List.getElem_append_left (by simpa using h1)];exact q55 _
  ·have:i=n:=by simp at h;omega
   subst this;rw[List.getElem_append_right (by simp)];simp
theorem bld_W {f:List Iv->Nat->Iv}{n:Nat}(h:∀l k,k<n->(f l k).W):∀x ∈ bld f n,x.W:=by
 intro x hx;obtain⟨i,hi,rfl⟩:=List.getElem_of_mem hx;rw[q55];exact h _ _ (by simpa using hi)
def at0 (a:List Iv)(k:Nat):Iv:=a[k]?.getD Iv.whole
theorem qco {a:List Iv}{k:Nat}(h:k<a.length):at0 a k=a[k]:=by simp[at0,h]
theorem at0_W {a:List Iv}{k:Nat}(w:∀x ∈ a,x.W):(at0 a k).W:=by
 unfold at0;cases h:a[k]? with
 |none=>exact Iv.whole_W
 |some x=>exact w _ (List.mem_of_getElem? h)
theorem are2 {a b:List Iv}:areB [a,b]=true↔1<=a.length/\a.length<=17/\b.length=a.length:=by
 simp[areB,serB];omega
theorem are1 {a:List Iv}:areB [a]=true↔1<=a.length/\a.length<=17:=by
 simp[areB,serB]
def zipI (F:Iv->Iv->Iv)(a b:List Iv):List Iv:=if areB [a,b]=true then bld (fun _ k=>F (at0 a k) (at0 b k)) a.length else []
theorem qan8 {F:Iv->Iv->Iv}{a b:List Iv}(h:∀x ∈ a,∀y ∈ b,(F x y).W):∀x ∈ zipI F a b,x.W:=by
 unfold zipI;split
 ·rename_i hs;obtain⟨_,_,h3⟩:=are2.1 hs;refine bld_W fun _ k hk=>?_
  rw[qco hk,qco (by omega)];exact h _ (List.getElem_mem _) _ (List.getElem_mem _)
 ·simp
theorem qamn {H:Heap}{g:Nat}{caps:List V}{F:Iv->Iv->Iv}(a b:List Iv)(la:a.length<=1000000)(_:b.length<=1000000)(h:∀x ∈ a,∀y ∈ b,Cb H g caps [x.v,y.v] (F x y).v) :
 Ev prog (.call qz4 [ivs a,ivs b,.fn g caps] H) (.ret (ivs (zipI F a b)) H):=by
 refine qf4 rfl ?_;have c:=qst [a,b] (by simp);simp[ivss]at c;simp[ivs];refine qak rfl rfl (H1:=H++[some ⟨1,[ivs a,ivs b],true,false⟩]) (vs:=[.sl [ivs a,ivs b]]) (by simp[prep,frzVs,frzV,ivs];rfl) c ?_;cases hs:areB [a,b]
 ·simp[zipI,hs]
 ·obtain⟨h1,h2,h3⟩:=are2.1 hs;have f1:a.length*88<=281474976710656:=by omega
  have f2:a.length<=9223372036854775807:=by omega
  simp[f1,f2];refine WK_up (fun i E H'=>E 0=ivs a/\E 1=ivs b/\E 2=.fn g caps/\E 18=.int .i64 a.length/\E 19=.int .i64 i/\Out H H' (E 7) 7 ((bld (fun _ k=>F (at0 a k) (at0 b k)) i).map Iv.v)) a.length ?_ ?_
  ·simp[ivs,bld];have:=Out.new (H:=H) (X:=[some ⟨1,[ivs a,ivs b],true,false⟩]) (z:=7) (blk:=List.replicate a.length (.agg [.bool false,.sl [],.int .i64 0,.bool false,.sl [],.int .i64 0,.bool false]));simpa[ivs]using this
  ·rintro i E H' hi ⟨h0,h1',h2',h18,h19,ho⟩;simp only[ivs]at h0 h1';rcases Nat.lt_or_ge i a.length with hlt|hge
   ·have f3:IntKind.i64.wrap ((i:Int)+1)=((i+1:Nat):Int):=by rw[wrap_i64]<;>omega
    have hlb:i<b.length:=by omega
    simp[qg8,h0,h1',h2',h18,h19,hlt,hlb];refine WL_cb (h a[i] (List.getElem_mem hlt) b[i] (List.getElem_mem hlb)) ho.pre rfl (by simp) ?_;obtain⟨v',H'',e',ho'⟩:=ho.oneIv (F a[i] b[i]) (by simp;omega);simp only[Iv.v]at e';simp[h0,h1',h2',h18,h19,e',f3,ivs];simpa[bld,qco hlt,qco hlb]using ho'
   ·have hin:i=a.length:=by omega
    subst hin;simp[qg8,h18,h19];have:=ho.fin (H1:=H) (List.prefix_refl _);rw[this];simp[zipI,hs]
theorem qaix {H:Heap}{b:Nat}{p:Int}(hb:H[b]?=some (some ⟨1,[.int .i64 p],false,true⟩))(x y:Iv)(wx:x.W)(wy:y.W):Cb H qw1 [.ptr b 0 0] [x.v,y.v] (x.add y p).v:=by
 intro H' hp;have hb':H'[b]?=some (some ⟨1,[.int .i64 p],false,true⟩):=by
  obtain⟨G,rfl⟩:=hp;rw[List.getElem?_append_left (List.getElem?_eq_some_iff.1 hb).1];exact hb
 have hbl:b<H'.length:=(List.getElem?_eq_some_iff.1 hb').1;refine⟨rfl,qf4 rfl ?_⟩;simp[List.getElem?_append_left hbl,hb'];refine qab rfl rfl rfl (qwu x y p wx wy) ?_;simp[lim]
def SW (a:List Iv):Prop:=a.length<=1000000/\∀x ∈ a,x.W
theorem qank (a b:List Iv)(p:Int)(wa:SW a)(wb:SW b):CQ prog q27 [ivs a,ivs b,.int .i64 p] (ivs (zipI (fun x y=>x.add y p) a b)):=by
 refine qag rfl fun H=>?_
 simp;refine WL_ev rfl rfl rfl (qamn a b wa.1 wb.1 fun x hx y hy=>qaix (p:=p) (by simp) x y (wa.2 x hx) (wb.2 y hy)) ?_;simp[ivs]
theorem qap {H H':Heap}{b:Nat}{x:Option Blk}(hp:H <+: H')(hb:H[b]?=some x):H'[b]?=some x/\∀G:Heap,(H'++G)[b]?=some x:=by
 obtain⟨G,rfl⟩:=hp;have h:(H++G)[b]?=some x:=by rw[List.getElem?_append_left (List.getElem?_eq_some_iff.1 hb).1];exact hb
 exact⟨h,fun G'=>by rw[List.getElem?_append_left (List.getElem?_eq_some_iff.1 h).1];exact h⟩
theorem Out.finO {H0 H1 H:Heap}{v:V}{z:Nat}{l:List V}(h:Out H0 H v z l)(hp:H1 <+: H0)(hl:l≠[]):Go.Abs.fin true H1.length H v=some (.ref H1.length z 0 l.length,H1++[some ⟨z,l,true,true⟩]):=by
 rcases h.val with ⟨e,_⟩|⟨b,blk,h1,h2,h3,h4,h5⟩
 ·exact absurd e hl
 ·subst h2;have hle:H1.length<=b:=Nat.le_trans hp.length_le h1;have:ownC H1.length H [] (.ref b z 0 l.length)=some (.ref (H1.length+0) z 0 l.length,H.set b none,[some ⟨z,l,true,true⟩]):=by
   rw[qqy,h3];simp[hle,h4,h5]
  show(ownV H1.length H [] (.ref b z 0 l.length)).bind _=_;have e:ownV H1.length H [] (.ref b z 0 l.length)=ownC H1.length H [] (.ref b z 0 l.length):=rfl;rw[e,this];have hpre:H1 <+: H.set b none:=qce (hp.trans h.pre) hle;simp[qff hpre]
def mulC (a b:List Iv)(p:Int)(k:Nat):Iv:=sumI p (fun i=>(at0 a i).mul (at0 b (k-i)) p) k
def mulS (a b:List Iv)(p:Int):List Iv:=bld (fun _ k=>mulC a b p k) a.length
theorem q2t {a b:List Iv}{p:Int}{k:Nat}:(mulC a b p k).W:=qnq mul_W k
theorem qaiv {H:Heap}{ba bb bk bp:Nat}{a b:List Iv}{p:Int}{k:Nat}(ha:H[ba]?=some (some ⟨1,[ivs a],false,true⟩))(hb:H[bb]?=some (some ⟨1,[ivs b],false,true⟩))
 (hk:H[bk]?=some (some ⟨1,[.int .i64 k],false,true⟩)) (hp:H[bp]?=some (some ⟨1,[.int .i64 p],false,true⟩)) (wa:∀x ∈ a,x.W) (wb:∀x ∈ b,x.W) (hka:k<a.length) (hkb:k<b.length) (hl:k<=1000000)
 (i:Nat) (hi:i<=k):Cb H qkk [.ptr ba 0 0,.ptr bb 0 0,.ptr bk 0 0,.ptr bp 0 0] [.int .i64 ((0+i:Nat):Int)] ((at0 a i).mul (at0 b (k-i)) p).v:=by
 intro H' hpre;obtain⟨a1,a2⟩:=qap hpre ha;obtain⟨b1,b2⟩:=qap hpre hb;obtain⟨k1,k2⟩:=qap hpre hk;obtain⟨p1,p2⟩:=qap hpre hp;refine⟨rfl,qf4 rfl ?_⟩;have e1:IntKind.i64.wrap ((k:Int)-i)=((k-i:Nat):Int):=by rw[wrap_i64]<;>omega
 have hia:i<a.length:=by omega
 have hib:k-i<b.length:=by omega
 simp[a2,b2,k2,p2,ivs,e1,hia,hib];refine qab rfl rfl rfl (qnk a[i] b[k-i] p (wa _ (List.getElem_mem hia)) (wb _ (List.getElem_mem hib))) ?_;simp[lim,qco hia,qco hib]
theorem q6g (a b:List Iv)(p:Int)(wa:SW a)(wb:SW b)(H:Heap) :
 Ev prog (.call qsk [ivs a,ivs b,.int .i64 p] H) (.ret (if areB [a,b]=true then .ref H.length 7 0 a.length else .nil) (if areB [a,b]=true then H++[some ⟨7,(mulS a b p).map Iv.v,true,true⟩]else H)):=by
 have c:=qst [a,b] (by simp);simp[ivss]at c
 suffices CT prog qsk [ivs a,ivs b,.int .i64 p] H (fun v H'=>v=(if areB [a,b]=true then .ref H.length 7 0 a.length else .nil)/\H'=(if areB [a,b]=true then H++[some ⟨7,(mulS a b p).map Iv.v,true,true⟩]else H)) by
  obtain⟨v,H',e,rfl,rfl⟩:=this;exact e
 refine CT_of (f:=qkf) rfl (qgw ?_);simp[ivs];refine qak rfl rfl (H1:=H++[some ⟨1,[ivs a],false,true⟩,some ⟨1,[ivs b],false,true⟩,some ⟨1,[.int .i64 p],false,true⟩,some ⟨1,[ivs a,ivs b],true,false⟩]) (vs:=[.sl [ivs a,ivs b]]) (by simp[prep,frzVs,frzV,ivs];rfl) c ?_;cases hs:areB [a,b]
 ·simp[fin,ownV,qzt]
 ·obtain⟨h1,h2,h3⟩:=are2.1 hs;have f1:a.length*88<=281474976710656:=by omega
  have f2:a.length<=9223372036854775807:=by omega
  simp[f1,f2,ivs];refine WK_up (fun i E H'=>E 3=.ptr H.length 0 0/\E 4=.ptr (H.length+1) 0 0/\E 5=.ptr (H.length+2) 0 0/\E 18=.int .i64 a.length/\E 19=.int .i64 i /\
   Out (H++[some ⟨1,[ivs a],false,true⟩,some ⟨1,[ivs b],false,true⟩,some ⟨1,[.int .i64 p],false,true⟩]) H' (E 7) 7 ((bld (fun _ k=>mulC a b p k) i).map Iv.v)) a.length ?_ ?_
  ·simp[ivs,bld];have:=Out.new (H:=H++[some ⟨1,[ivs a],false,true⟩,some ⟨1,[ivs b],false,true⟩,some ⟨1,[.int .i64 p],false,true⟩]) (X:=[some ⟨1,[ivs a,ivs b],true,false⟩]) (z:=7) (blk:=List.replicate a.length (.agg [.bool false,.sl [],.int .i64 0,.bool false,.sl [],.int .i64 0,.bool false]));simpa[ivs]using this
  ·rintro i E H' hi ⟨e3,e4,e5,e18,e19,ho⟩;have pa:=qap (b:=H.length) (x:=some ⟨1,[ivs a],false,true⟩) ho.pre (by simp);have pb:=qap (b:=H.length+1) (x:=some ⟨1,[ivs b],false,true⟩) ho.pre (by simp);have pp:=qap (b:=H.length+2) (x:=some ⟨1,[.int .i64 p],false,true⟩) ho.pre (by simp);have lenH:=ho.pre.length_le;rcases Nat.lt_or_ge i a.length with hlt|hge
   ·have f3:IntKind.i64.wrap ((i:Int)+1)=((i+1:Nat):Int):=by rw[wrap_i64]<;>omega
    simp[qiy,e3,e4,e5,e18,e19,hlt,pp.2];refine WL_ev (args:=[.int .i64 0,.int .i64 i,.int .i64 p,.fn qkk [.ptr H.length 0 0,.ptr (H.length+1) 0 0,.ptr H'.length 0 0,.ptr (H.length+2) 0 0]]) rfl rfl rfl
     (by
      have:=qabm (H:=H'++[some ⟨1,[.int .i64 i],false,true⟩]) (g:=qkk) (caps:=[.ptr H.length 0 0,.ptr (H.length+1) 0 0,.ptr H'.length 0 0,.ptr (H.length+2) 0 0]) (f:=fun j=>(at0 a j).mul (at0 b (i-j)) p) 0 i p (by omega) (fun _ _=>mul_W)
       (fun j hj=>qaiv (pa.2 _) (pb.2 _) (by simp) (pp.2 _) wa.2 wb.2 hlt (by omega) (by omega) j hj)
      simpa using this) ?_
    obtain⟨v',H'',e',ho'⟩:=(ho.grow [some ⟨1,[.int .i64 i],false,true⟩]).oneIv (mulC a b p i) (by simp;omega);simp only[Iv.v,mulC]at e';simp at e';simp[e3,e4,e5,e18,e19,e',f3];simpa[bld]using ho'
   ·have hin:i=a.length:=by omega
    subst hin;simp[qiy,e18,e19];have:=ho.finO (H1:=H) (List.prefix_append _ _) (fun h=>by have h2:=congrArg List.length h;rw[List.length_map,qb7,List.length_nil]at h2;omega);rw[this];simp[mulS]
def lessI (s:Iv)(p:Int)(f:Nat->Iv):Nat->Iv
 |0=>s
 |n+1=>(lessI s p f n).add (f n).neg p
theorem qrs {s:Iv}{p:Int}{f:Nat->Iv}(h:s.W):∀n,(lessI s p f n).W
 |0=>h
 |_+1=>add_W
theorem q61 {H:Heap}{g:Nat}{caps:List V}{f:Nat->Iv}(s:Iv)(a n:Nat)(p:Int)(hn:a+n<=1000000)(ws:s.W)(hw:∀i,i<n->(f i).W)(h:∀i:Nat,i<n->Cb H g caps [.int .i64 ((a+i:Nat):Int)] (f i).v) :
 Ev prog (.call qmi [s.v,.int .i64 a,.int .i64 ((a:Int)+n-1),.int .i64 p,.fn g caps] H) (.ret (lessI s p f n).v H):=by
 refine qf4 rfl ?_;simp;refine WK_up (fun i E H'=>H'=H++[some ⟨7,[(lessI s p f i).v],false,true⟩,some ⟨7,[.agg [.bool false,.nil,.int .i64 0,.bool false,.nil,.int .i64 0,.bool false]],false,true⟩]/\E 2=.int .i64 ((a:Int)+n-1)/\E 3=.int .i64 p/\E 4=.fn g caps/\E 5=.ptr H.length 0 0/\E 10=.ptr (H.length+1) 0 0/\E 11=.int .i64 ((a+i:Nat):Int)) n ?_ ?_
 ·simp[lessI]
 ·rintro i E H' hi ⟨rfl,h2,h3,h4,h5,h10,h11⟩;rcases Nat.lt_or_ge i n with hlt|hge
  ·have e2:IntKind.i64.wrap ((a:Int)+i+1)=(a:Int)+i+1:=by rw[wrap_i64]<;>omega
   have f0:(a:Int)+i<=a+n-1:=by omega
   simp[qg7,h2,h4,h5,h11,f0];refine WL_cb (h i (by omega)) (qe1 (List.prefix_refl H)) rfl (by simp) ?_;simp[h3];refine qab rfl rfl rfl (qaf1 (lessI s p f i) (f i) p (qrs ws i) (hw i (by omega))) ?_;simp[h2,h3,h4,h5,h10,h11,e2,lessI];exact⟨hlt,by omega⟩
  ·have hin:i=n:=by omega
   subst hin;have f0:¬(a:Int)+i<=a+i-1:=by omega
   simp[qg7,h2,h5,h10,h11,f0]
theorem Out.get {H0 H:Heap}{l:List V}{z:Nat}{v:V}(h:Out H0 H v z l){i:Nat}(hi:i<l.length):∃b blk,v=.ref b z 0 l.length/\H[b]?=some (some ⟨z,blk,true,true⟩)/\blk[i]?=some l[i]:=by
 rcases h.val with ⟨e,_⟩|⟨b,blk,h1,h2,h3,h4,h5⟩
 ·rw[e]at hi;simp at hi
 ·refine⟨b,blk,h2,h3,?_⟩;have:(blk.take l.length)[i]?=l[i]?:=by rw[h4]
  rw[List.getElem?_take_of_lt hi]at this;rw[this,List.getElem?_eq_getElem hi]
def divC (a b:List Iv)(p:Int)(o:List Iv)(k:Nat):Iv:=(lessI (at0 a k) p (fun i=>(at0 o i).mul (at0 b (k-i)) p) k).div (at0 b 0) p
def divL (a b:List Iv)(p:Int):List Iv:=bld (divC a b p) a.length
theorem q8w {a b o:List Iv}{p:Int}{k:Nat}:(divC a b p o k).W:=div_W
theorem qaiw {H:Heap}{bo bb bk bp rb:Nat}{o b:List Iv}{p:Int}{k:Nat}{blk:List V}(ho:H[bo]?=some (some ⟨1,[.ref rb 7 0 k],false,true⟩))(hr:H[rb]?=some (some ⟨7,blk,true,true⟩))(hb:H[bb]?=some (some ⟨1,[ivs b],false,true⟩))
 (hk:H[bk]?=some (some ⟨1,[.int .i64 k],false,true⟩)) (hp:H[bp]?=some (some ⟨1,[.int .i64 p],false,true⟩)) (wo:∀x ∈ o,x.W) (wb:∀x ∈ b,x.W) (hko:o.length=k) (hkb:k<b.length) (hl:k<=1000000)
 (hblk:∀i,i<k->blk[i]?=some (at0 o i).v)
 (i:Nat) (hi:i<k):Cb H qgr [.ptr bo 0 0,.ptr bb 0 0,.ptr bk 0 0,.ptr bp 0 0] [.int .i64 ((0+i:Nat):Int)] ((at0 o i).mul (at0 b (k-i)) p).v:=by
 intro H' hpre;obtain⟨o1,o2⟩:=qap hpre ho;obtain⟨r1,r2⟩:=qap hpre hr;obtain⟨b1,b2⟩:=qap hpre hb;obtain⟨k1,k2⟩:=qap hpre hk;obtain⟨p1,p2⟩:=qap hpre hp;refine⟨rfl,qf4 rfl ?_⟩;have e1:IntKind.i64.wrap ((k:Int)-i)=((k-i:Nat):Int):=by rw[wrap_i64]<;>omega
 have hib:k-i<b.length:=by omega
 have hg:=hblk i hi;simp[o2,r2,b2,k2,p2,ivs,e1,hi,hib,hg];refine qab rfl rfl rfl (qnk (at0 o i) b[k-i] p (at0_W wo) (wb _ (List.getElem_mem hib))) ?_;simp[lim,qco hib]
@[simp] theorem qakc {n k:Nat}:(n+k<n)=False:=by simp
theorem Out.app2 {H0 H:Heap}{v y:V}{z bytes:Nat}{l ys:List V}(h:Out H0 H v z l)(hy:elems H y=some ys)(hz:qds z ys=true)(hn:ys≠[])(hb:(l.length+ys.length)*bytes<=140737488355328) :
 ∃v' H',qa2 z bytes v y H=some (v',H')/\Out H0 H' v' z (l++ys)/\∀(c:Nat) (x:Blk),H[c]?=some (some x)->x.arr=false->H'[c]?=some (some x):=by
 obtain⟨v',H',e,ho⟩:=h.app hy hz hn hb;refine⟨v',H',e,ho,fun c x hc hx=>?_⟩;unfold qa2 at e;rw[hy]at e;simp only[Option.bind_some,hz,if_true]at e;have hlt:=(List.getElem?_eq_some_iff.1 hc).1;rcases h.val with ⟨h1,h2⟩|⟨b,blk,h1,h2,h3,h4,h5⟩
 ·subst h2;simp only[hn,if_false]at e;split at e
  ·injection e with e;injection e with _ e;rw[<-e,List.getElem?_append_left hlt];exact hc
  ·cases e
 ·subst h2;have hbc:b≠c:=by
   intro e2;subst e2;rw[h3]at hc;injection hc with hc;injection hc with hc
   rw[<-hc]at hx;cases hx
  simp only[h3,hn,if_false]at e;split at e
  ·injection e with e;injection e with _ e
   rw[<-e,List.getElem?_append_left (by simpa using hlt),List.getElem?_set_ne hbc];exact hc
  ·cases e
theorem Out.setB {H0 H:Heap}{v:V}{z:Nat}{l:List V}(h:Out H0 H v z l){c:Nat}{x:Blk}{y:Option Blk}(hc:H[c]?=some (some x))(hx:x.arr=false)(h0:H0.length<=c):Out H0 (H.set c y) v z l:=by
 refine⟨qce h.pre h0,?_⟩;rcases h.val with h1|⟨b,blk,h1,h2,h3,h4⟩
 ·exact .inl h1
 ·refine .inr ⟨b,blk,h1,h2,?_,h4⟩;rw[List.getElem?_set_ne]
  ·exact h3
  ·intro e;subst e;rw[h3]at hc;injection hc with hc;injection hc with hc
   rw[<-hc]at hx;cases hx
theorem Out.oneIv2 {H0 H:Heap}{v:V}{l:List Iv}(h:Out H0 H v 7 (l.map Iv.v))(x:Iv)(hb:l.length+1<=1000000000) :
 ∃v' H',qa2 7 88 v (.ref H.length 7 0 1) (H++[some ⟨7,[x.v],true,true⟩])=some (v',H')/\Out H0 H' v' 7 ((l++[x]).map Iv.v)/\∀(c:Nat) (x:Blk),H[c]?=some (some x)->x.arr=false->H'[c]?=some (some x):=by
 obtain⟨v',H',e,ho,k⟩:=(h.grow [some ⟨7,[x.v],true,true⟩]).app2 (y:=.ref H.length 7 0 1) (ys:=[x.v]) (bytes:=88) (by simp) (by simp) (by simp) (by simp;omega);refine⟨v',H',e,by simpa using ho,fun c x hc hx=>k c x ?_ hx⟩;rw[List.getElem?_append_left (List.getElem?_eq_some_iff.1 hc).1];exact hc
theorem Out.isRef {H0 H:Heap}{v:V}{l:List Iv}(h:Out H0 H v 7 (l.map Iv.v)){n:Nat}(hn:l.length=n+1):∃b,v=.ref b 7 0 (n+1):=by
 rcases h.val with ⟨e,_⟩|⟨b,blk,_,e,_⟩
 ·have:=congrArg List.length e;rw[List.length_map,hn]at this;cases this
 ·rw[List.length_map,hn]at e;exact⟨b,e⟩
theorem Out.cell {H0 H:Heap}{v:V}{z:Nat}{l:List V}(h:Out H0 H v z l):v.isTup=false/\v.cells=[v]/\∀w,v.withCells [w]=w:=by
 rcases h.val with ⟨_,e⟩|⟨b,blk,_,e,_⟩<;>subst e<;>exact⟨rfl,rfl,fun _=>rfl⟩
theorem qafx (a b:List Iv)(p:Int)(wa:SW a)(wb:SW b):CQ prog q26 [ivs a,ivs b,.int .i64 p] (ivs (if areB [a,b]=true then divL a b p else [])):=by
 have c:=qst [a,b] (by simp);simp[ivss]at c;refine qag rfl fun H=>?_
 simp[ivs];refine qak rfl rfl (H1:=H++[some ⟨1,[ivs b],false,true⟩,some ⟨1,[.int .i64 p],false,true⟩,some ⟨1,[ivs a,ivs b],true,false⟩]) (vs:=[.sl [ivs a,ivs b]]) (by simp[prep,frzVs,frzV,ivs];rfl) c ?_;cases hs:areB [a,b]
 ·simp
 ·obtain⟨h1,h2,h3⟩:=are2.1 hs;have f1:a.length*88<=281474976710656:=by omega
  have f2:a.length<=9223372036854775807:=by omega
  simp[f1,f2,ivs];refine WK_up (fun i E H'=>E 0=ivs a/\E 4=.ptr H.length 0 0/\E 5=.ptr (H.length+1) 0 0/\E 7=.ptr (H.length+4) 0 0/\E 19=.int .i64 a.length/\E 20=.int .i64 i /\
   ∃rb,H'[H.length+4]?=some (some ⟨1,[.ref rb 7 0 i],false,true⟩)/\Out (H++[some ⟨1,[ivs b],false,true⟩,some ⟨1,[.int .i64 p],false,true⟩]) H' (.ref rb 7 0 i) 7 ((bld (divC a b p) i).map Iv.v)) a.length ?_ ?_
  ·simp[ivs,bld];have:=Out.new (H:=H++[some ⟨1,[ivs b],false,true⟩,some ⟨1,[.int .i64 p],false,true⟩]) (X:=[some ⟨1,[ivs a,ivs b],true,false⟩]) (z:=7) (blk:=List.replicate a.length (.agg [.bool false,.sl [],.int .i64 0,.bool false,.sl [],.int .i64 0,.bool false]));have:=this.grow [some ⟨1,[.ref (H.length+3) 7 0 0],false,true⟩];simpa[ivs]using this
  ·rintro i E H' hi ⟨e0,e4,e5,e7,e19,e20,rb,hv,ho⟩;simp only[ivs]at e0;have pb:=qap (b:=H.length) (x:=some ⟨1,[ivs b],false,true⟩) ho.pre (by simp);have pp:=qap (b:=H.length+1) (x:=some ⟨1,[.int .i64 p],false,true⟩) ho.pre (by simp);have pv:=qap (b:=H.length+4) (List.prefix_refl H') hv;rcases Nat.lt_or_ge i a.length with hlt|hge
   ·have f3:IntKind.i64.wrap ((i:Int)+1)=((i+1:Nat):Int):=by rw[wrap_i64]<;>omega
    have f4:IntKind.i64.wrap ((i:Int)-1)=(i:Int)-1:=by rw[wrap_i64]<;>omega
    have hb0:0<b.length:=by omega
    have hob:=qb7 (f:=divC a b p) i;have hW:∀x ∈ bld (divC a b p) i,x.W:=bld_W fun _ _ _=>q8w
    simp[qi2,e0,e4,e5,e7,e19,e20,hlt,pp.2,f4,V.isCell];have lev:Ev prog (.call qmi [a[i].v,.int .i64 0,.int .i64 ((i:Int)-1),.int .i64 p,.fn qgr [.ptr (H.length+4) 0 0,.ptr H.length 0 0,.ptr H'.length 0 0,.ptr (H.length+1) 0 0]] (H'++[some ⟨1,[.int .i64 i],false,true⟩]))
     (.ret (lessI a[i] p (fun j=>(at0 (bld (divC a b p) i) j).mul (at0 b (i-j)) p) i).v (H'++[some ⟨1,[.int .i64 i],false,true⟩])):=by
     have:=q61 (H:=H'++[some ⟨1,[.int .i64 i],false,true⟩]) (g:=qgr) (caps:=[.ptr (H.length+4) 0 0,.ptr H.length 0 0,.ptr H'.length 0 0,.ptr (H.length+1) 0 0]) (f:=fun j=>(at0 (bld (divC a b p) i) j).mul (at0 b (i-j)) p) a[i] 0 i p (by omega) (wa.2 _ (List.getElem_mem hlt)) (fun _ _=>mul_W) (fun j hj=>?_)
     ·simpa using this
     ·obtain⟨rb,blk,e1,e2,_⟩:=ho.get (i:=j) (by rw[List.length_map,hob];omega);have pr:=qap (List.prefix_refl H') e2;injection e1 with e1
      subst e1;refine qaiw (pv.2 _) (pr.2 _) (pb.2 _) (by simp) (pp.2 _) hW wb.2 hob (by omega) (by omega) (fun t ht=>?_) j hj;obtain⟨rb',blk',e1',e2',e3'⟩:=ho.get (i:=t) (by rw[List.length_map,hob];omega);injection e1' with e1'
      subst e1';rw[e2]at e2';injection e2' with e2';injection e2' with e2';injection e2' with _ e2'
      rw[e2',e3',List.getElem_map,qco (by omega)]
    refine WL_ev (args:=[a[i].v,.int .i64 0,.int .i64 ((i:Int)-1),.int .i64 p,.fn qgr [.ptr (H.length+4) 0 0,.ptr H.length 0 0,.ptr H'.length 0 0,.ptr (H.length+1) 0 0]]) rfl rfl rfl lev ?_;have lw:(lessI a[i] p (fun j=>(at0 (bld (divC a b p) i) j).mul (at0 b (i-j)) p) i).W:=qrs (wa.2 _ (List.getElem_mem hlt)) i;have hd:(lessI a[i] p (fun j=>(at0 (bld (divC a b p) i) j).mul (at0 b (i-j)) p) i).div b[0] p=divC a b p (bld (divC a b p) i) i:=by
     unfold divC;rw[qco hlt,qco hb0]
    generalize lessI a[i] p (fun j=>(at0 (bld (divC a b p) i) j).mul (at0 b (i-j)) p) i=L at *
    simp[e4,e5,e7,pb.2,pp.2,pv.2,ivs,hb0];refine qab rfl rfl rfl (qqp L b[0] p lw (wb.2 _ (List.getElem_mem hb0))) ?_;rw[hd];obtain⟨v',H'',e',ho',keep⟩:=(ho.grow [some ⟨1,[.int .i64 i],false,true⟩,some ⟨7,[L.v],false,true⟩]).oneIv2 (divC a b p (bld (divC a b p) i) i) (by simp;omega);simp only[Iv.v]at e';simp at e';have hv':=keep _ _ (pv.2 _) rfl;obtain⟨rb',rfl⟩:=ho'.isRef (n:=i) (by simp);simp[e0,e4,e5,e7,e19,e20,e',f3,hv'];refine⟨rb',?_,?_⟩
    ·rw[List.getElem?_set_self (List.getElem?_eq_some_iff.1 hv').1]
    ·have:=ho'.setB (y:=some ⟨1,[.ref rb' 7 0 (i+1)],false,true⟩) hv' rfl (by simp);simpa[bld,ivs]using this
   ·have hin:i=a.length:=by omega
    subst hin;have cr:=ho.cell;generalize V.ref rb 7 0 a.length=rv at *
    simp[qi2,e7,e19,e20,hv,cr.2.1];have:=ho.fin (H1:=H) (List.prefix_append _ _);rw[this];simp[divL]
theorem qgm {f:List Iv->Nat->Iv}{n i:Nat}(h:i<n):at0 (bld f n) i=f (bld f i) i:=by
 rw[qco (by simpa using h),q55]
theorem Iv.scl_W' {x:Iv}{k:Int}:(x.scl k).W:=by
 unfold Iv.scl;split
 ·exact qpu scl_ok.w scl_ok.w
 ·exact Iv.whole_W
theorem Iv.sqrt_W' {x:Iv}{p:Int}:(x.sqrt p).W:=by
 unfold Iv.sqrt;split
 ·exact qpu rSqrt_ok.w rSqrt_ok.w
 ·exact Iv.whole_W
def sqrtC (a:List Iv)(p:Int)(o:List Iv):Nat->Iv
 |0=>(at0 a 0).sqrt p
 |k+1=>(lessI (at0 a (k+1)) p (fun i=>(at0 o (1+i)).mul (at0 o (k+1-(1+i))) p) k).div ((at0 o 0).scl 1) p
def sqrtL (a:List Iv)(p:Int):List Iv:=bld (sqrtC a p) a.length
theorem qua {a o:List Iv}{p:Int}{k:Nat}:(sqrtC a p o k).W:=by
 cases k
 ·exact Iv.sqrt_W'
 ·exact div_W
theorem qafu {H:Heap}{bo bk bp rb:Nat}{o:List Iv}{p:Int}{k:Nat}{blk:List V}(ho:H[bo]?=some (some ⟨1,[.ref rb 7 0 k],false,true⟩))(hr:H[rb]?=some (some ⟨7,blk,true,true⟩))
 (hk:H[bk]?=some (some ⟨1,[.int .i64 k],false,true⟩)) (hp:H[bp]?=some (some ⟨1,[.int .i64 p],false,true⟩)) (wo:∀x ∈ o,x.W) (hl:k<=1000000)
 (hblk:∀i,i<k->blk[i]?=some (at0 o i).v)
 (i:Nat) (hi:1+i<k):Cb H qfm [.ptr bo 0 0,.ptr bk 0 0,.ptr bp 0 0] [.int .i64 ((1+i:Nat):Int)] ((at0 o (1+i)).mul (at0 o (k-(1+i))) p).v:=by
 intro H' hpre;have⟨j,hj⟩:∃j,j=1+i:=⟨_,rfl⟩
 rw[<-hj]at hi ⊢;obtain⟨o1,o2⟩:=qap hpre ho;obtain⟨r1,r2⟩:=qap hpre hr;obtain⟨k1,k2⟩:=qap hpre hk;obtain⟨p1,p2⟩:=qap hpre hp;refine⟨rfl,qf4 rfl ?_⟩;have e1:IntKind.i64.wrap ((k:Int)-j)=((k-j:Nat):Int):=by rw[wrap_i64]<;>omega
 have hg:=hblk j hi;have hg2:=hblk (k-j) (by omega);have f1:k-j<k:=by omega
 simp[o2,r2,k2,p2,e1,hi,hg,hg2,f1];refine qab rfl rfl rfl (qnk (at0 o j) (at0 o (k-j)) p (at0_W wo) (at0_W wo)) ?_;simp[lim]
theorem q9g (a:List Iv)(p:Int)(wa:SW a):CQ prog qz5 [ivs a,.int .i64 p] (ivs (if areB [a]=true then sqrtL a p else [])):=by
 have c:=qst [a] (by simp);simp[ivss]at c;refine qag rfl fun H=>?_
 simp[ivs];refine qak rfl rfl (H1:=H++[some ⟨1,[.int .i64 p],false,true⟩,some ⟨1,[ivs a],true,false⟩]) (vs:=[.sl [ivs a]]) (by simp[prep,frzVs,frzV,ivs];rfl) c ?_;cases hs:areB [a]
 ·simp
 ·obtain⟨h1,h2⟩:=are1.1 hs;have f1:a.length*88<=281474976710656:=by omega
  have f2:a.length<=9223372036854775807:=by omega
  have ha0:0<a.length:=by omega
  simp[f1,f2,ivs,ha0];refine qab rfl rfl rfl (qai0 a[0] p (wa.2 _ (List.getElem_mem ha0))) ?_;have hS:a[0].sqrt p=sqrtC a p [] 0:=by simp[sqrtC,qco ha0]
  have bS:bld (sqrtC a p) 1=[sqrtC a p [] 0]:=rfl;rw[hS];have wS:(sqrtC a p [] 0).W:=qua;generalize hT:sqrtC a p [] 0=S at *
  simp[qa2];refine qab rfl rfl rfl (ql6 S 1 wS) ?_;simp;have⟨n,hn⟩:∃n,n+1=a.length:=⟨a.length-1,by omega⟩
  refine WK_up (fun i E H'=>E 0=ivs a/\E 3=.ptr H.length 0 0/\E 5=.ptr (H.length+3) 0 0/\E 6=.ptr (H.length+6) 0 0/\∃kb,E 7=.ptr kb 0 0/\H.length+7<=kb/\H'[kb]?=some (some ⟨1,[.int .i64 ((i+1:Nat):Int)],false,true⟩)/\H'[H.length+6]?=some (some ⟨7,[(S.scl 1).v],false,true⟩) /\
   ∃rb,H'[H.length+3]?=some (some ⟨1,[.ref rb 7 0 (i+1)],false,true⟩)/\Out (H++[some ⟨1,[.int .i64 p],false,true⟩]) H' (.ref rb 7 0 (i+1)) 7 ((bld (sqrtC a p) (i+1)).map Iv.v)) n ?_ ?_
  ·simp[ivs];refine⟨by simp,.inr ⟨H.length+5,[S.v],by simp,by simp,by simp,by simp[bS],by simp⟩⟩
  ·rintro i E H' hi ⟨e0,e3,e5,e6,kb,e7,hkb,hk,htw,rb,hv,ho⟩;simp only[ivs]at e0;have pp:=qap (b:=H.length) (x:=some ⟨1,[.int .i64 p],false,true⟩) ho.pre (by simp);have pv:=qap (List.prefix_refl H') hv;have pk:=qap (List.prefix_refl H') hk;have pt:=qap (List.prefix_refl H') htw;simp only[Iv.v]at pt;have f0:((i:Int)+1<a.length)↔i<n:=by omega
   rcases Nat.lt_or_ge i n with hlt|hge
   ·have f3:IntKind.i64.wrap ((i:Int)+1+1)=(i:Int)+1+1:=by rw[wrap_i64]<;>omega
    have f4:IntKind.i64.wrap (i:Int)=(i:Int):=by rw[wrap_i64]<;>omega
    have f5:(i:Int)+1<a.length:=by omega
    have f6:i+1<a.length:=by omega
    have f7:(0:Int)<=(i:Int)+1:=by omega
    have hob:=qb7 (f:=sqrtC a p) (i+1);have hW:∀x ∈ bld (sqrtC a p) (i+1),x.W:=bld_W fun _ _ _=>qua
    simp[qg9,e0,e3,e5,e7,pp.1,pk.1,f4,f5,f6,f7,V.isCell];have lev:Ev prog (.call qmi [a[i+1].v,.int .i64 1,.int .i64 i,.int .i64 p,.fn qfm [.ptr (H.length+3) 0 0,.ptr kb 0 0,.ptr H.length 0 0]] H')
     (.ret (lessI a[i+1] p (fun j=>(at0 (bld (sqrtC a p) (i+1)) (1+j)).mul (at0 (bld (sqrtC a p) (i+1)) (i+1-(1+j))) p) i).v H'):=by
     have:=q61 (H:=H') (g:=qfm) (caps:=[.ptr (H.length+3) 0 0,.ptr kb 0 0,.ptr H.length 0 0]) (f:=fun j=>(at0 (bld (sqrtC a p) (i+1)) (1+j)).mul (at0 (bld (sqrtC a p) (i+1)) (i+1-(1+j))) p) a[i+1] 1 i p (by omega) (wa.2 _ (List.getElem_mem f6)) (fun _ _=>mul_W) (fun j hj=>?_)
     ·have e:((1:Nat):Int)+(i:Int)-1=i:=by omega
      rw[e]at this;simpa using this
     ·obtain⟨rb1,blk,e1,e2,_⟩:=ho.get (i:=j) (by rw[List.length_map,hob];omega);injection e1 with e1
      subst e1;refine qafu hv e2 hk pp.1 hW (by omega) (fun t ht=>?_) j (by omega);obtain⟨rb',blk',e1',e2',e3'⟩:=ho.get (i:=t) (by rw[List.length_map,hob];omega);injection e1' with e1'
      subst e1';rw[e2]at e2';injection e2' with e2';injection e2' with e2';injection e2' with _ e2'
      rw[e2',e3',List.getElem_map,qco (by omega)]
    refine WL_ev (args:=[a[i+1].v,.int .i64 1,.int .i64 i,.int .i64 p,.fn qfm [.ptr (H.length+3) 0 0,.ptr kb 0 0,.ptr H.length 0 0]]) rfl rfl rfl lev ?_;have lw:(lessI a[i+1] p (fun j=>(at0 (bld (sqrtC a p) (i+1)) (1+j)).mul (at0 (bld (sqrtC a p) (i+1)) (i+1-(1+j))) p) i).W:=qrs (wa.2 _ (List.getElem_mem f6)) i;have hd:(lessI a[i+1] p (fun j=>(at0 (bld (sqrtC a p) (i+1)) (1+j)).mul (at0 (bld (sqrtC a p) (i+1)) (i+1-(1+j))) p) i).div (S.scl 1) p=sqrtC a p (bld (sqrtC a p) (i+1)) (i+1):=by
     have:at0 (bld (sqrtC a p) (i+1)) 0=S:=by rw[qgm (by omega)];exact hT
     simp only[sqrtC];rw[this,qco f6]
    generalize lessI a[i+1] p (fun j=>(at0 (bld (sqrtC a p) (i+1)) (1+j)).mul (at0 (bld (sqrtC a p) (i+1)) (i+1-(1+j))) p) i=L at *
    simp[e3,e5,e6,pp.2,pv.2,pt.2];refine qab rfl rfl rfl (qqp L (S.scl 1) p lw (Iv.scl_W' (x:=S) (k:=1))) ?_;rw[hd];obtain⟨v',H'',e',ho',keep⟩:=(ho.grow [some ⟨7,[L.v],false,true⟩]).oneIv2 (sqrtC a p (bld (sqrtC a p) (i+1)) (i+1)) (by simp;omega);simp only[Iv.v]at e';simp at e';have hv':=keep _ _ (pv.2 _) rfl;have hk':=keep _ _ (pk.2 _) rfl;have ht':=keep _ _ (pt.2 _) rfl;obtain⟨rb',rfl⟩:=ho'.isRef (n:=i+1) (by simp);have n1:¬H.length+3=kb:=by omega
    simp[e0,e3,e5,e6,e7,e',f3,hv',hk',n1];have l1:=(List.getElem?_eq_some_iff.1 ht').1;refine⟨hlt,rfl,by omega,?_,rb',?_,?_⟩
    ·rw[List.getElem?_append_left (by simp;omega),List.getElem?_set_ne (by omega)];exact ht'
    ·rw[List.getElem?_append_left (by simp;omega),List.getElem?_set_self (by omega)]
    ·have:=(ho'.setB (y:=some ⟨1,[.ref rb' 7 0 (i+1+1)],false,true⟩) hv' rfl (by simp)).grow [some ⟨1,[.int .i64 ((i:Int)+1+1)],false,true⟩];simpa[bld]using this
   ·have hin:i=n:=by omega
    subst hin;have f5:¬(i:Int)+1<a.length:=by omega
    have cr:=ho.cell;generalize V.ref rb 7 0 (i+1)=rv at *
    simp[qg9,e0,e5,e7,hk,f5,hv,cr.2.1];have:=ho.fin (H1:=H) (List.prefix_append _ _);rw[this,hn];simp[sqrtL]
theorem qafy (a:List Iv):CQ prog qvo [ivs a] (.bool (areB [a])):=by
 refine qag rfl fun H=>?_
 have e:areB [a]=(decide ((1:Int)<=a.length)&&decide ((a.length:Int)<=17)):=by
  rw[Bool.eq_iff_iff,are1];simp;omega
 rw[e];simp[ivs];grind
theorem q6h (k:Int)(h1:-4611686018427387904<=k)(h2:k<=4611686018427387904):CQ prog q0i [.int .i64 k] (nI k k).v:=by
 refine qag rfl fun H=>?_
 have c:=qanl k h1 h2;rw[<-show nD k=Dy.of (decide (k<0)) k.natAbs 0 from rfl]at c;have d:=qafz (nD k);rw[show Iv.pt (nD k)=nI k k from rfl]at d;simp;refine zq c ?_;simp;refine zq d ?_;simp[lim]
set_option maxHeartbeats 1000000 in
theorem qaaz {H:Heap}{g:Nat}{caps:List V}{p:(List Iv)->Bool}(l:List (List Iv))(hl:l.length<=9223372036854775807)(h:∀x ∈ l,Cb H g caps [ivs x] (.bool (p x))) :
 Ev prog (.call qh7 [ivss l,.fn g caps] H) (.ret (idxV (l.findIdx? p)) H):=by
 refine qf4 rfl ?_;simp[ivss];refine WK_up (fun i E H'=>H'=H/\E 0=ivss l/\E 1=.fn g caps/\E 7=.int .i64 l.length/\E 8=.int .i64 i/\(∀j x,j<i->l[j]?=some x->p x=false)) l.length ?_ ?_
 ·simp[ivss]
 ·rintro i E H' hi ⟨rfl,h0,h1,h7,h8,hp⟩;simp only[ivss]at h0 ⊢;rcases Nat.lt_or_ge i l.length with hlt|hge
  ·have e2:IntKind.i64.wrap ((i:Int)+1)=((i+1:Nat):Int):=by rw[wrap_i64]<;>omega
   simp[qbf,h7,h8,h0,h1,hlt];refine WL_cb (h l[i] (List.getElem_mem hlt)) (List.prefix_refl _) rfl rfl ?_;simp[h0,h1,h7,h8,e2];refine⟨fun hpx=>?_,fun hpx=>?_⟩
   ·rw[show l.findIdx? p=some i from ?_]
    ·simp[idxV]
    ·rw[List.findIdx?_eq_some_iff_getElem];refine⟨hlt,hpx,?_⟩
     ·intro j hj;have:=hp j l[j] hj (List.getElem?_eq_getElem _);simp[this]
   ·intro j y hj hy;rcases Nat.lt_or_ge j i with hji|hji
    ·exact hp j y hji hy
    ·have:j=i:=by omega
     subst this;rw[List.getElem?_eq_getElem hlt]at hy;injection hy with hy;rw[<-hy];exact hpx
  ·have hin:i=l.length:=by omega
   subst hin;have e1:l.findIdx? p=none:=by
    simp only[List.findIdx?_eq_none_iff];intro x hx;obtain⟨j,hj,rfl⟩:=List.getElem_of_mem hx;exact hp j _ hj (List.getElem?_eq_getElem _)
   simp[qbf,h7,h8,e1,idxV]
theorem qrl {H:Heap}{g:Nat}{caps:List V}{p:(List Iv)->Bool}(l:List (List Iv))(hl:l.length<=9223372036854775807)(h:∀x ∈ l,Cb H g caps [ivs x] (.bool (p x))) :
 Ev prog (.call qf9 [ivss l,.fn g caps] H) (.ret (.bool (l.any p)) H):=by
 refine qf4 rfl ?_;simp[ivss];refine WL_ev rfl rfl rfl (qaaz l hl h) ?_;rcases hq:l.findIdx? p with _|i
 ·have e1:l.any p=false:=by simpa[List.findIdx?_eq_none_iff]using hq
  simp[idxV,e1]
 ·have e1:l.any p=true:=by
   rw[List.findIdx?_eq_some_iff_getElem]at hq;obtain⟨h1,h2,_⟩:=hq;exact List.any_eq_true.2 ⟨_,List.getElem_mem h1,h2⟩
  simp[idxV,e1]
theorem qwb : ∀{a b:List Iv},(decide (a.length=b.length)&&allB (fun x y=>decide (x=y)) a b)=decide (a=b)
 | [],[]=>rfl
 | [],_ :: _=>by simp
 |_ :: _,[]=>by simp
 |x :: a,y :: b=>by
  have h:=qwb (a:=a) (b:=b);simp only[List.length_cons,allB];by_cases e:x=y
  ·subst e;rw[show(decide (a.length+1=b.length+1)&&(decide (x=x)&&allB (fun x y=>decide (x=y)) a b))=(decide (a.length=b.length)&&allB (fun x y=>decide (x=y)) a b) by simp,h];simp
  ·simp[e]
theorem qab8 (a b:List Iv)(wa:SW a)(wb:SW b):CQ prog qpz [ivs a,ivs b] (.bool (decide (a=b))):=by
 refine qag rfl fun H=>?_
 simp;refine WL_ev rfl rfl rfl (qy7 (p:=fun x y=>decide (x=y)) a b (by have:=wa.1;omega) fun x hx y hy=>Cb_of (fun _=>rfl) (qaay x y (wa.2 x hx) (wb.2 y hy))) ?_;simp only[qwb];simp
def Iv.g21 (x:Iv):Bool:=decide (20<x.lo.m.length) ||decide (20<x.hi.m.length)
def qp9 (a:List Iv):Bool:=decide (30<a.length) ||a.any Iv.g21
def gr21 (p:Int)(l:List (List Iv)):Bool:=(decide (64<p)&&decide (p<=512)) ||l.any qp9
theorem qamd (x:Iv):CQ prog qqa [x.v] (.bool x.g21):=by
 refine qag rfl fun H=>?_
 have e:x.g21=(decide ((20:Int)<x.lo.m.length) ||decide ((20:Int)<x.hi.m.length)):=by
  unfold Iv.g21
  congr 1<;>(rw[decide_eq_decide];omega)
 rw[e];simp[lim];grind
theorem qajy (a:List Iv)(la:a.length<=9223372036854775807):CQ prog qr2 [ivs a] (.bool (qp9 a)):=by
 refine qag rfl fun H=>?_
 by_cases h:30<a.length
 ·have h':(30:Int)<a.length:=by omega
  simp[ivs,h',qp9,h]
 ·have h':¬(30:Int)<a.length:=by omega
  simp[ivs,h'];refine WL_ev rfl rfl rfl (qrm (p:=Iv.g21) a (by omega) fun x hx=>Cb_of (fun _=>rfl) (qamd x)) ?_;simp[qp9,h]
theorem qal9 (p:Int)(l:List (List Iv))(hl:l.length<=1000000)(h:∀a ∈ l,a.length<=9223372036854775807):CQ prog qvu [.int .i64 p,ivss l] (.bool (gr21 p l)):=by
 refine qag rfl fun H=>?_
 by_cases h1:64<p/\p<=512
 ·simp[h1,gr21]
 ·have h1':(decide (64<p)&&decide (p<=512))=false:=by simpa using h1
  simp[ivss];refine⟨fun h2=>?_,fun h2=>?_⟩
  ·have h3:¬p<=512:=fun h3=>h1 ⟨h2,h3⟩
   simp[h3];intro _;refine WL_ev rfl rfl rfl (qrl (p:=qp9) l (by omega) fun a ha=>Cb_of (fun _=>rfl) (qajy a (h a ha))) ?_;simp[gr21,h1']
  ·have h3:¬64<p:=by omega
   simp[h3];refine WL_ev rfl rfl rfl (qrl (p:=qp9) l (by omega) fun a ha=>Cb_of (fun _=>rfl) (qajy a (h a ha))) ?_;simp[gr21,h1']
def conL (x:Iv)(k:Nat):List Iv:=x :: List.replicate k (nI 0 0)
def varL (x:Iv):Nat->List Iv
 |0=>[x]
 |k+1=>x :: nI 1 1 :: List.replicate k (nI 0 0)
theorem nI0_v : (nI 0 0).v=.agg [.bool false,.sl [],.int .i64 0,.bool false,.sl [],.int .i64 0,.bool false]:=by
 have:nI 0 0=⟨⟨false,[],0⟩,⟨false,[],0⟩,false⟩:=by decide +kernel
 rw[this];rfl
theorem qtx {x:Iv}{k:Nat}:(conL x k).length=k+1:=by simp[conL]
theorem nI0_W : (nI 0 0).W:=nI_W (by omega) (by omega)
theorem nI1_W : (nI 1 1).W:=nI_W (by omega) (by omega)
theorem qaj6 {x:Iv}{k:Nat}(w:x.W):∀y ∈ conL x k,y.W:=by
 intro y hy;rcases List.mem_cons.1 hy with rfl|hy
 ·exact w
 ·rw[List.eq_of_mem_replicate hy];exact nI0_W
theorem qaoc {x:Iv}{k:Nat}(w:x.W):∀y ∈ varL x k,y.W:=by
 cases k with
 |zero=>intro y hy;simp[varL]at hy;subst hy;exact w
 |succ k=>
  intro y hy;simp only[varL,List.mem_cons]at hy;rcases hy with rfl|rfl|hy
  ·exact w
  ·exact nI1_W
  ·rw[List.eq_of_mem_replicate hy];exact nI0_W
def ordB (k:Int):Bool:=decide (0<=k)&&decide (k<=16)
theorem qwr (x:Iv)(k:Int)(H:Heap) :
 Ev prog (.call qlv [x.v,.int .i64 k] H) (.ret (if ordB k=true then .ref H.length 7 0 (k.toNat+1)else .nil) (if ordB k=true then H++[some ⟨7,(conL x k.toNat).map Iv.v,true,true⟩]else H)):=by
 suffices CT prog qlv [x.v,.int .i64 k] H (fun v H'=>v=(if ordB k=true then .ref H.length 7 0 (k.toNat+1)else .nil)/\H'=(if ordB k=true then H++[some ⟨7,(conL x k.toNat).map Iv.v,true,true⟩]else H)) by
  obtain⟨v,H',e,rfl,rfl⟩:=this;exact e
 refine CT_of (f:=qec) rfl (qgw ?_);by_cases h1:k<0
 ·have o:ordB k=false:=by simp[ordB];omega
  simp[h1,o,fin,ownV,qzt]
 ·by_cases h2:16<k
  ·have o:ordB k=false:=by simp[ordB];omega
   simp[h1,h2,o,fin,ownV,qzt]
  ·have o:ordB k=true:=by simp[ordB];omega
   obtain⟨n,rfl⟩:∃n:Nat,k=n:=⟨k.toNat,by omega⟩
   have f1:IntKind.i64.wrap ((n:Int)+1)=(n:Int)+1:=by rw[wrap_i64]<;>omega
   have f2:(0:Int)<=(n:Int)+1:=by omega
   have f3:((n:Int)+1).toNat=n+1:=by omega
   have f4:(n+1)*88<=281474976710656:=by omega
   have f5:n+1<=9223372036854775807:=by omega
   have f6:¬(16:Int)<n:=by omega
   simp[o,f1,f2,f3,f4,f5,f6,List.replicate_succ,fin,ownV,qqy];have e:List.map Iv.v (conL x n)=x.v :: List.replicate n (nI 0 0).v:=by simp[conL]
   rw[nI0_v]at e;rw[e];exact⟨fun h=>by omega,rfl⟩
theorem qanh (x:Iv)(k:Int):CQ prog qru [x.v,.int .i64 k] (ivs (if ordB k=true then varL x k.toNat else [])):=by
 refine qag rfl fun H=>?_
 simp;refine qdr rfl rfl rfl ⟨_,_,qwr x k _,?_⟩;have wc:=qj2 1 (by omega) (by omega);cases o:ordB k
 ·simp[ivs]
 ·simp[ordB]at o;obtain⟨n,rfl⟩:∃n:Nat,k=n:=⟨k.toNat,by omega⟩
  rcases n with _|n
  ·simp[conL,varL,ivs]
  ·have f1:(0:Int)<(n:Int)+1:=by omega
   simp[f1];refine zq wc ?_;have e:List.map Iv.v (conL x (n+1))=x.v :: (nI 0 0).v :: List.replicate n (nI 0 0).v:=by simp[conL,List.replicate_succ]
   have z:(nI 0 0).v.cells.length=7:=rfl;simp only[Iv.v]at e;have e2:List.map Iv.v (varL x (n+1))=x.v :: (nI 1 1).v :: List.replicate n (nI 0 0).v:=by simp[varL]
   simp only[Iv.v]at e2;generalize nI 0 0=y at *
   generalize nI 1 1=w at *
   simp[e,e2,ivs,qcy,V.withCells]
end Go.Abs.W
