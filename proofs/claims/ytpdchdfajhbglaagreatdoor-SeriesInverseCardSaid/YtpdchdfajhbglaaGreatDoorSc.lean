/- Parts of the proof: FpSeC, FpSeD, FpSeE, FpSeF. -/
import Derived.Test.YtpdchdfajhbglaaGreatDoorSb
import Derived.Test.YtpdchdfajhbglaaGreatDoorHp
namespace Go.Abs.W
def pwI (a:List Iv)(p:Int):Nat->List Iv
 |0=>a
 |k+1=>mulS (pwI a p k) a p
theorem qq1 {a b:List Iv}{p:Int}:(mulS a b p).length=a.length:=by simp[mulS]
theorem qajp {a b:List Iv}{p:Int}:∀x ∈ mulS a b p,x.W:=bld_W fun _ _ _=>q2t
theorem qus {a:List Iv}{p:Int}:∀k,(pwI a p k).length=a.length
 |0=>rfl
 |k+1=>by rw[pwI,qq1,qus k]
theorem pwI_W {a:List Iv}{p:Int}(w:∀x ∈ a,x.W):∀k,∀x ∈ pwI a p k,x.W
 |0=>w
 |_+1=>qajp
def zerL (a:List Iv)(p:Int):List Iv:=bld (fun _ k=>(nI 0 0).mul (at0 a k) p) a.length
def powS (a:List Iv)(n p:Int):List Iv:=
 if n<0\/16<n then bld (fun _ _=>Iv.whole) a.length
 else(if n=0 then zerL a p else pwI a p (n.toNat-1)).set 0 ((at0 a 0).pow n p)
theorem qab4 {α:Type}{l a:List α}{x:α}{i:Nat}(hi:l.length=i)(h:i<a.length):(l++a.drop i).set i x=(l++[x])++a.drop (i+1):=by
 subst hi;rw[List.set_append_right _ _ (Nat.le_refl _),Nat.sub_self,List.drop_eq_getElem_cons h,List.set_cons_zero,List.append_assoc];rfl
theorem qaf6 (a:List Iv)(ha:a≠[])(hl:a.length<=1000000)(H:Heap) :
 Ev prog (.call qe8 [ivs a] H) (.ret (.ref H.length 7 0 a.length) (H++[some ⟨7,a.map Iv.v,true,true⟩])):=by
 suffices CT prog qe8 [ivs a] H (fun v H'=>v=.ref H.length 7 0 a.length/\H'=H++[some ⟨7,a.map Iv.v,true,true⟩]) by
  obtain⟨v,H',e,rfl,rfl⟩:=this;exact e
 refine CT_of (f:=qbr) rfl (qgw ?_);cases a with
 |nil=>exact absurd rfl ha
 |cons x t=>
  simp at hl;have e1:(t.length+1)*88<=140737488355328:=by omega
  simp[ivs,e1,qa2,qa3,fin,ownV,qqy];exact List.take_of_length_le (by simp)
theorem quu {H:Heap}{x:Iv}:qbp H x.v=some (x.v,H):=by
 simp[qbp,frzV,frzCs,frzC,lim,V.pure,V.cellPure]
theorem q42 {H:Heap}{r:Nat}{x:Option Blk}(h:r<H.length):(H.set r x)[r]?=some x:=List.getElem?_set_self h
theorem qajk {H H1:Heap}{a:List Iv}{r:Nat}{E:Env}{K:List Fr}{Q:AX->Env->Heap->Prop}(la:a.length<=1000000)(e7:E 7=.ref r 7 0 a.length)(e24:E 24=.int .i64 a.length)(e25:E 25=.int .i64 0)
 (hp:H <+: H1) (hr:H.length<=r) (hb:H1[r]?=some (some ⟨7,a.map Iv.v,true,true⟩))
 (k:∀E2 H2,E2 7=.ref r 7 0 a.length->H <+: H2->H2[r]?=some (some ⟨7,(bld (fun _ _=>Iv.whole) a.length).map Iv.v,true,true⟩)->WP prog H.length Q K (.exit 1) E2 H2) :
 WK prog H.length (.loop qeb) K E H1 Q:=by
 refine WK_up (fun i E H'=>E 7=.ref r 7 0 a.length/\E 24=.int .i64 a.length/\E 25=.int .i64 i/\H <+: H'/\H'[r]?=some (some ⟨7,(bld (fun _ _=>Iv.whole) i++a.drop i).map Iv.v,true,true⟩)) a.length ?_ ?_
 ·simp[e7,e24,e25,hp,hb,bld]
 ·rintro i E H' hi ⟨e7,e24,e25,hp,hb⟩;have hrl:=(List.getElem?_eq_some_iff.1 hb).1;rcases Nat.lt_or_ge i a.length with hlt|hge
  ·have g1:IntKind.i64.wrap ((i:Int)+1)=(i:Int)+1:=by rw[wrap_i64]<;>omega
   simp[qeb,e7,e24,e25,hlt];refine zq qal ?_;have hi2:i<((bld (fun _ _=>Iv.whole) i++a.drop i).map Iv.v).length:=by simp;omega
   have⟨y,hy⟩:∃y:Iv,((bld (fun _ _=>Iv.whole) i++a.drop i).map Iv.v)[i]'hi2=y.v:=⟨_,List.getElem_map _⟩
   have hS:((bld (fun _ _=>Iv.whole) i++a.drop i).map Iv.v).set i Iv.whole.v=(bld (fun _ _=>Iv.whole) (i+1)++a.drop (i+1)).map Iv.v:=by
    rw[<-List.map_set,qab4 (qb7 i) hlt];rfl
   generalize ((bld (fun _ _=>Iv.whole) i++a.drop i).map Iv.v)=L at *
   have pI:=quu (H:=H') (x:=Iv.whole);simp only[Iv.v]at pI hS hy;simp[e7,e24,e25,hlt,hb,pI,hi2,g1,qcy,hy];exact⟨qce hp hr,by rw[q42 hrl];simpa using hS⟩
  ·have hin:i=a.length:=by omega
   subst hin;simp[qeb,e24,e25];rw[List.drop_of_length_le (Nat.le_refl _),List.append_nil]at hb;have:=k (upd E 26 (.bool false)) H' (by simpa using e7) hp hb;simpa using this
theorem qaoz {H H1:Heap}{a:List Iv}{p:Int}{r:Nat}{E:Env}{K:List Fr}{Q:AX->Env->Heap->Prop}(wa:SW a)(e0:E 0=ivs a)(e1:E 1=.int .i64 0)(e2:E 2=.int .i64 p)(e7:E 7=.ref r 7 0 a.length)(e38:E 38=.int .i64 a.length)(e39:E 39=.int .i64 0)
 (hp:H <+: H1) (hr:H.length<=r) (hb:H1[r]?=some (some ⟨7,a.map Iv.v,true,true⟩))
 (k:∀E2 H2,E2 0=ivs a->E2 1=.int .i64 0->E2 2=.int .i64 p->E2 7=.ref r 7 0 a.length->H <+: H2->H2[r]?=some (some ⟨7,(zerL a p).map Iv.v,true,true⟩)->WP prog H.length Q K (.exit 3) E2 H2) :
 WK prog H.length (.loop qea) K E H1 Q:=by
 have la:=wa.1;refine WK_up (fun i E H'=>E 0=ivs a/\E 1=.int .i64 0/\E 2=.int .i64 p/\E 7=.ref r 7 0 a.length/\E 38=.int .i64 a.length/\E 39=.int .i64 i/\H <+: H'/\H'[r]?=some (some ⟨7,(bld (fun _ k=>(nI 0 0).mul (at0 a k) p) i++a.drop i).map Iv.v,true,true⟩)) a.length ?_ ?_
 ·simp[e0,e1,e2,e7,e38,e39,hp,hb,bld]
 ·rintro i E H' hi ⟨e0,e1,e2,e7,e38,e39,hp,hb⟩;have hrl:=(List.getElem?_eq_some_iff.1 hb).1;rcases Nat.lt_or_ge i a.length with hlt|hge
  ·have g1:IntKind.i64.wrap ((i:Int)+1)=(i:Int)+1:=by rw[wrap_i64]<;>omega
   have wc:=qj2 0 (by omega) (by omega);have cm:=qnk (nI 0 0) a[i] p nI0_W (wa.2 _ (List.getElem_mem hlt));simp only[ivs]at e0;simp[qea,e7,e38,e39,hlt];refine zq wc ?_;have hi2:i<((bld (fun _ k=>(nI 0 0).mul (at0 a k) p) i++a.drop i).map Iv.v).length:=by simp;omega
   have⟨y,hy⟩:∃y:Iv,((bld (fun _ k=>(nI 0 0).mul (at0 a k) p) i++a.drop i).map Iv.v)[i]'hi2=y.v:=⟨_,List.getElem_map _⟩
   have hS:((bld (fun _ k=>(nI 0 0).mul (at0 a k) p) i++a.drop i).map Iv.v).set i ((nI 0 0).mul a[i] p).v=(bld (fun _ k=>(nI 0 0).mul (at0 a k) p) (i+1)++a.drop (i+1)).map Iv.v:=by
    rw[<-List.map_set,qab4 (qb7 i) hlt,<-qco hlt];rfl
   generalize ((bld (fun _ k=>(nI 0 0).mul (at0 a k) p) i++a.drop i).map Iv.v)=L at *
   generalize nI 0 0=z at *
   simp[e0,e2,hlt];refine zq cm ?_;have pI:=quu (H:=H') (x:=z.mul a[i] p);generalize z.mul a[i] p=w at *
   simp only[Iv.v]at pI hS hy;simp[e0,e1,e2,e7,e38,e39,hlt,hb,pI,hi2,g1,qcy,hy,ivs];exact⟨qce hp hr,by rw[q42 hrl];simpa using hS⟩
  ·have hin:i=a.length:=by omega
   subst hin;simp[qea,e38,e39];rw[List.drop_of_length_le (Nat.le_refl _),List.append_nil]at hb;have:=k (upd E 40 (.bool false)) H' (by simpa using e0) (by simpa using e1) (by simpa using e2) (by simpa using e7) hp hb;simpa using this
theorem qajj {H H1:Heap}{a L:List Iv}{p:Int}{m r:Nat}{V1:V}{E:Env}{K:List Fr}{Q:AX->Env->Heap->Prop}(wa:SW a)(h1:areB [a,a]=true)(hm:m<=1000)(lL:L.length=a.length)(hL:m≠0->L=a)
 (e0:E 0=ivs a) (e1:E 1=V1) (e2:E 2=.int .i64 p) (e7:E 7=.ref r 7 0 a.length) (e54:∃q:Int,E 54=.int .i64 q/\(q=m\/(m=0/\q<0))) (e55:E 55=.int .i64 0)
 (hp:H <+: H1) (hr:H.length<=r) (hb:H1[r]?=some (some ⟨7,L.map Iv.v,true,true⟩))
 (k:∀E2 H2 r2,E2 0=ivs a->E2 1=V1->E2 2=.int .i64 p->E2 7=.ref r2 7 0 a.length->H <+: H2->H.length<=r2->H2[r2]?=some (some ⟨7,(if m=0 then L else pwI a p m).map Iv.v,true,true⟩)->WP prog H.length Q K (.exit 5) E2 H2) :
 WK prog H.length (.loop qd9) K E H1 Q:=by
 have la:=wa.1;obtain⟨q,e54,hq⟩:=e54;have⟨B,hB⟩:∃B:Nat->List Iv,∀j,B j=if m=0 then L else pwI a p j:=⟨_,fun _=>rfl⟩
 have B0:B 0=L:=by
  rw[hB];split
  ·rfl
  ·rename_i hm0;rw[hL hm0];rfl
 have lB:∀j,(B j).length=a.length:=fun j=>by
  rw[hB];split
  ·exact lL
  ·exact qus j
 refine WK_up (fun i E H'=>E 0=ivs a/\E 1=V1/\E 2=.int .i64 p/\E 54=.int .i64 q/\E 55=.int .i64 i/\H <+: H'/\∃r,E 7=.ref r 7 0 a.length/\H.length<=r/\H'[r]?=some (some ⟨7,(B i).map Iv.v,true,true⟩)) m ?_ ?_
 ·rw[B0];exact⟨e0,e1,e2,e54,e55,hp,r,e7,hr,hb⟩
 ·rintro i E H' hi ⟨e0,e1,e2,e54,e55,hp,r,e7,hr,hb⟩;have hrl:=(List.getElem?_eq_some_iff.1 hb).1;rcases Nat.lt_or_ge i m with hlt|hge
  ·have hm0:m≠0:=by omega
   have hqm:q=m:=by omega
   have g0:(i:Int)<q:=by omega
   have g1:IntKind.i64.wrap ((i:Int)+1)=(i:Int)+1:=by rw[wrap_i64]<;>omega
   have Bi:B i=pwI a p i:=by rw[hB,if_neg hm0]
   have Bi1:B (i+1)=mulS (B i) a p:=by rw[hB,if_neg hm0,Bi];rfl
   have wB:SW (B i):=⟨by rw[lB];exact la,by rw[Bi];exact pwI_W wa.2 i⟩
   have lBi:=lB i;have ar:areB [B i,a]=true:=by
    rw[are2]at h1 ⊢;omega
   have me:=q6g (B i) a p wB wa (H'.set r (some ⟨7,(B i).map Iv.v,true,false⟩));rw[if_pos ar,if_pos ar,<-Bi1]at me;have tk:List.take a.length (List.map Iv.v (B i))=List.map Iv.v (B i):=List.take_of_length_le (by simp[lBi]);have lle:a.length<=(List.map Iv.v (B i)).length:=by simp[lBi]
   simp[qd9,e0,e2,e54,e55,g0];refine qdr (vs:=[ivs (B i),ivs a,.int .i64 p]) (H1:=H'.set r (some ⟨7,(B i).map Iv.v,true,false⟩)) rfl rfl (by simp[prep,frzVs,frzV,e7,hb,ivs,tk,lBi];rfl) ⟨_,_,me,?_⟩;simp[e0,e1,e2,e54,e55,g1,lBi];exact⟨hlt,(qce hp hr).trans (List.prefix_append _ _),hp.length_le⟩
  ·have hin:i=m:=by omega
   subst hin;have g0:¬(i:Int)<q:=by omega
   simp[qd9,e54,e55,g0];rw[hB]at hb;have:=k (upd E 56 (.bool false)) H' r (by simpa using e0) (by simpa using e1) (by simpa using e2) (by simpa using e7) hp hr hb;simpa using this
theorem qale {H H':Heap}{r:Nat}{L:List Iv}{x:Iv}(hp:H <+: H')(hr:H.length<=r)(hb:H'[r]?=some (some ⟨7,L.map Iv.v,true,true⟩))(h0:0<L.length) :
 ∃y:Iv,(L.map Iv.v)[0]?=some y.v/\fin false H.length (H'.set r (some ⟨7,(L.map Iv.v).set 0 x.v,true,true⟩)) (.ref r 7 0 L.length)=some (ivs (L.set 0 x),H):=by
 have hrl:=(List.getElem?_eq_some_iff.1 hb).1;refine⟨L[0],by simp[h0],?_⟩;have o:Out H (H'.set r (some ⟨7,(L.map Iv.v).set 0 x.v,true,true⟩)) (.ref r 7 0 ((L.set 0 x).map Iv.v).length) 7 ((L.set 0 x).map Iv.v):=by
  refine⟨qce hp hr,.inr ⟨r,_,hr,rfl,q42 hrl,?_,by simp⟩⟩;rw[<-List.map_set];exact List.take_of_length_le (Nat.le_refl _)
 have:=o.fin (H1:=H) (List.prefix_refl _);simpa[ivs]using this
theorem qafw (a:List Iv)(n p:Int)(wa:SW a):CQ prog qw0 [ivs a,.int .i64 n,.int .i64 p] (ivs (if areB [a]=true then powS a n p else [])):=by
 have ar:=qst [a] (by simp);simp[ivss]at ar;refine qag rfl fun H=>?_
 simp[ivs];refine qak rfl rfl (H1:=H++[some ⟨1,[ivs a],true,false⟩]) (vs:=[.sl [ivs a]]) (by simp[prep,frzVs,frzV,ivs];rfl) ar ?_;cases hs:areB [a]
 ·simp
 ·obtain⟨h1,h2⟩:=are1.1 hs;have ha0:0<a.length:=by omega
  have a2:areB [a,a]=true:=are2.2 ⟨h1,h2,rfl⟩;have pre1:H <+: H++[some ⟨1,[ivs a],true,false⟩,some ⟨7,a.map Iv.v,true,true⟩]:=List.prefix_append _ _;have get1:(H++[some ⟨1,[ivs a],true,false⟩,some ⟨7,a.map Iv.v,true,true⟩])[H.length+1]?=some (some ⟨7,a.map Iv.v,true,true⟩):=by simp
  simp;refine qdr (args:=[ivs a]) rfl rfl rfl ⟨_,_,qaf6 a (by intro h;rw[h]at ha0;simp at ha0) (by omega) _,?_⟩;by_cases hn:n<0\/16<n
  ·have hP:powS a n p=bld (fun _ _=>Iv.whole) a.length:=by unfold powS;rw[if_pos hn]
   rw[hP];have done:∀(H2:Heap),H <+: H2->H2[H.length+1]?=some (some ⟨7,(bld (fun _ _=>Iv.whole) a.length).map Iv.v,true,true⟩)->fin false H.length H2 (.ref (H.length+1) 7 0 a.length)=some (V.sl ((bld (fun _ _=>Iv.whole) a.length).map Iv.v),H):=by
    intro H2 q1 q2;have o:Out H H2 (.ref (H.length+1) 7 0 ((bld (fun _ _=>Iv.whole) a.length).map Iv.v).length) 7 ((bld (fun _ _=>Iv.whole) a.length).map Iv.v):=⟨q1,.inr ⟨_,_,by omega,rfl,q2,List.take_of_length_le (Nat.le_refl _),Nat.le_refl _⟩⟩
    have:=o.fin (H1:=H) (List.prefix_refl _);simpa using this
   by_cases h0:n<0
   ·simp[h0];refine qajk (a:=a) (r:=H.length+1) (by omega) (by simp) (by simp) (by simp) pre1 (by omega) get1 fun E2 H2 q1 q2 q3=>?_
    simpa[q1]using done H2 q2 q3
   ·have h16:16<n:=by omega
    simp[h0,h16];refine qajk (a:=a) (r:=H.length+1) (by omega) (by simp) (by simp) (by simp) pre1 (by omega) get1 fun E2 H2 q1 q2 q3=>?_
    simpa[q1]using done H2 q2 q3
  ·have h0:¬n<0:=by omega
   have h16:¬16<n:=by omega
   obtain⟨m,rfl⟩:∃m:Nat,n=m:=⟨n.toNat,by omega⟩
   have hP:powS a m p=(if m=0 then zerL a p else pwI a p (m-1)).set 0 ((at0 a 0).pow m p):=by
    unfold powS;rw[if_neg hn]
    congr 1
    by_cases hm:m=0
    ·subst hm;simp
    ·have:¬(m:Int)=0:=by omega
     simp[hm]
   rw[hP];have lP:(if m=0 then zerL a p else pwI a p (m-1)).length=a.length:=by
    split
    ·simp[zerL]
    ·exact qus _
   have cp:=qaf2 a[0] m p (wa.2 _ (List.getElem_mem ha0));have tail:∀(E2:Env) (H2:Heap) (r2:Nat),E2 0=ivs a->E2 1=.int .i64 m->E2 2=.int .i64 p->E2 7=.ref r2 7 0 a.length->H <+: H2->H.length<=r2 ->
    H2[r2]?=some (some ⟨7,(if m=0 then zerL a p else pwI a p (m-1)).map Iv.v,true,true⟩) ->
    WK prog H.length (.seq (.region false qke) (.seq (.region false qkd) .ret)) [] E2 H2 (fun x E1 H1=>(x=AX.normal\/x=AX.ret)/\fin false H.length H1 (E1 6)=some (V.sl (List.map Iv.v ((if m=0 then zerL a p else pwI a p (m-1)).set 0 ((at0 a 0).pow m p))),H)):=by
    intro E2 H2 r2 i0 i1 i2 i7 q1 q2 q3;simp only[ivs]at i0;obtain⟨y,hy,hf⟩:=qale (x:=(at0 a 0).pow m p) q1 q2 q3 (by omega);rw[lP]at hf;rw[qco ha0]at hf ⊢;simp[i0,i1,i2,ha0];refine zq cp ?_;have pI:=quu (H:=H2) (x:=a[0].pow m p);generalize a[0].pow m p=w at *
    simp only[Iv.v]at pI hy hf;simp only[ivs]at hf;simp[i7,ha0,q3,pI,hy,qcy];simpa using hf
   by_cases hm:m=0
   ·subst hm;simp;refine qaoz (a:=a) (p:=p) (r:=H.length+1) wa (by simp[ivs]) (by simp) (by simp) (by simp) (by simp) (by simp) pre1 (by omega) get1 fun E2 H2 i0 i1 i2 i7 q2 q3=>?_
    have w1:IntKind.i64.wrap (-1)=-1:=by rw[wrap_i64]<;>omega
    simp[i1];refine qajj (a:=a) (L:=zerL a p) (p:=p) (m:=0) (r:=H.length+1) (V1:=.int .i64 0) wa a2 (by omega) (by simp[zerL]) (by simp) (by simpa using i0) (by simpa using i1) (by simpa using i2) (by simpa using i7) ⟨_,by simp;rfl,.inr ⟨rfl,by rw[w1];omega⟩⟩ (by simp) q2 (by omega) q3 fun E3 H3 r3 j0 j1 j2 j7 q5 q6 q7=>?_
    have:=tail E3 H3 r3 j0 j1 j2 j7 q5 q6 (by simpa using q7);simpa using this
   ·have hm1:¬(m:Int)=0:=by omega
    have w1:IntKind.i64.wrap ((m:Int)-1)=((m-1:Nat):Int):=by rw[wrap_i64]<;>omega
    simp[h16,hm,w1];refine⟨fun h=>absurd h (by omega),?_⟩;refine qajj (a:=a) (L:=a) (p:=p) (m:=m-1) (r:=H.length+1) (V1:=.int .i64 m) wa a2 (by omega) rfl (fun _=>rfl) (by simp[ivs]) (by simp) (by simp) (by simp) ⟨((m-1:Nat):Int),by simp,.inl rfl⟩ (by simp) pre1 (by omega) get1 fun E3 H3 r3 j0 j1 j2 j7 q5 q6 q7=>?_
    have q8:(if m-1=0 then a else pwI a p (m-1))=pwI a p (m-1):=by
     split
     ·rename_i h;rw[h];rfl
     ·rfl
    rw[q8]at q7;have:=tail E3 H3 r3 j0 j1 j2 j7 q5 q6 (by simpa[hm]using q7);simpa[hm]using this
theorem qalc (a b:List Iv):CQ prog qxf [ivs a,ivs b] (.bool (areB [a,b])):=by
 refine qag rfl fun H=>?_
 have h1:areB [a,b]=(areB [a]&&decide (a.length=b.length)):=by
  rw[Bool.eq_iff_iff,are2];simp[are1];omega
 rw[h1];simp;refine qab rfl rfl rfl (qafy a) ?_;cases areB [a]
 ·simp
 ·have h2:decide ((a.length:Int)=b.length)=decide (a.length=b.length):=by rw[decide_eq_decide];omega
  simp[ivs];omega
theorem qap6 {a b:List Iv}{p:Int}(w:a.length<=1000000):SW (divL a b p):=⟨by unfold divL;rw[qb7];exact w,bld_W fun _ _ _=>q8w⟩
theorem qac3 {a b:List Iv}{p:Int}(w:a.length<=1000000):SW (mulS a b p):=⟨by rw[qq1];exact w,qajp⟩
theorem qaom {l:List Iv}{x:Iv}{i:Nat}(w:SW l)(wx:x.W):SW (l.set i x):=
 ⟨by simpa using w.1,fun y hy=>by
  rcases List.mem_or_eq_of_mem_set hy with h|h
  ·exact w.2 y h
  ·rw[h];exact wx⟩
theorem q7m {a:List Iv}{n p:Int}(w:SW a):SW (powS a n p):=by
 unfold powS;split
 ·exact⟨by rw[qb7];exact w.1,bld_W fun _ _ _=>Iv.whole_W⟩
 ·refine qaom ?_ pow_W;split
  ·exact⟨by unfold zerL;rw[qb7];exact w.1,bld_W fun _ _ _=>mul_W⟩
  ·exact⟨by rw[qus];exact w.1,pwI_W w.2 _⟩
end Go.Abs.W
