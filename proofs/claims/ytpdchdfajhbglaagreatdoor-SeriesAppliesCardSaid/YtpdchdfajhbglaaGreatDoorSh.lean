/- Parts of the proof: FpSf5. -/
import Derived.Test.YtpdchdfajhbglaaGreatDoorSg
namespace Go.Abs.W
def qV (q:Int × List Iv):V:=.agg [.int .i64 q.1,ivs q.2]
theorem qqj {a b:List Iv}{n p:Int}{H H1:Heap}{K:List (Int × List Iv)}{E:Env}{r:Nat}{FR:List Fr}{Q:AX->Env->Heap->Prop}(hK:K.length=15)(fK:∀q ∈ K,CQ prog qld [.int .i64 q.1,.int .i64 n,ivs a,ivs b,.int .i64 p] (ivs q.2)/\SW q.2)
 (e0:E 0=ivs a) (e1:E 1=ivs b) (e2:E 2=.int .i64 n) (e3:E 3=.int .i64 p) (e78:E 78=.ref r 2 0 15) (e79:E 79=.int .i64 15) (e80:E 80=.int .i64 0) (hp:H <+: H1) (hb:H1[r]?=some (some ⟨2,K.map qV,true,true⟩))
 (k:∀E2 H2,H <+: H2->WP prog H.length Q FR (.exit 0) E2 H2):WK prog H.length (.loop qbp) FR E H1 Q:=by
 refine WK_up (fun i E H'=>E 0=ivs a/\E 1=ivs b/\E 2=.int .i64 n/\E 3=.int .i64 p/\E 78=.ref r 2 0 15/\E 79=.int .i64 15/\E 80=.int .i64 i/\H <+: H'/\H'[r]?=some (some ⟨2,K.map qV,true,true⟩)) 15 ?_ ?_
 ·simp[e0,e1,e2,e3,e78,e79,e80,hp,hb]
 ·rintro i E H' hi ⟨e0,e1,e2,e3,e78,e79,e80,hp,hb⟩;have pb:=qar (List.prefix_refl H') hb;rcases Nat.lt_or_ge i 15 with hlt|hge
  ·have g1:IntKind.i64.wrap ((i:Int)+1)=(i:Int)+1:=by rw[wrap_i64]<;>omega
   have hlt':(i:Int)<15:=by omega
   have hiK:i<K.length:=by omega
   obtain⟨ca,wq⟩:=fK K[i] (List.getElem_mem hiK);have cs:=qkv wq (rfl:K[i].2=K[i].2);generalize hq:K[i]=q at *
   obtain⟨kd,l⟩:=q;simp only at ca cs;have hg:(K.map qV)[i]?=some (.agg [.int .i64 kd,ivs l]):=by rw[List.getElem?_map,List.getElem?_eq_getElem hiK,hq];rfl
   have hqv:qV K[i]=.agg [.int .i64 kd,ivs l]:=by rw[hq];rfl
   simp[qbp,e78,e79,e80,hlt',hlt,hb,hqv,hK,e0,e1,e2,e3,ivs];refine zq ca ?_;simp[ivs];refine zq cs ?_;simp[e0,e1,e2,e3,e78,e79,e80,g1,pb.2,qdk hp,ivs]
  ·obtain rfl:i=15:=by omega
   simp[qbp,e79,e80];exact k _ _ hp
set_option maxRecDepth 20000 in
set_option maxHeartbeats 4000000 in
theorem qab8 (a b:List Iv)(n p:Int)(la:LL a)(lb:LL b):CQ prog qno [ivs a,ivs b,.int .i64 n,.int .i64 p] (.bool true):=by
 refine qag rfl fun H=>?_
 have g:=qae9 p [a,b] (by simp) (by simp;exact⟨la.len,lb.len⟩);simp;refine zq q1g ?_;simp;refine qaj (vs:=[.int .i64 p,ivss [a,b]]) rfl rfl (by simp[prep,frzVs,frzV,ivs,ivss];rfl) g ?_;cases hg:gr21 p [a,b]
 case true=>simp
 obtain⟨hl,wa⟩:=qtk hg (by simp) la;obtain⟨hlb,wb⟩:=qtk hg (by simp) lb;have⟨K,hK⟩:∃K,K=[((3:Int),appS 3 n a b p),(4,appS 4 n a b p),(5,appS 5 n a b p),(6,appS 6 n a b p),(7,appS 7 n a b p),(8,appS 8 n a b p),(9,appS 9 n a b p),(10,appS 10 n a b p),(11,appS 11 n a b p),(12,appS 12 n a b p),(13,appS 13 n a b p),(1,[]),(2,[]),(0,[]),(14,[])]:=⟨_,rfl⟩
 have fK:∀q ∈ K,CQ prog qld [.int .i64 q.1,.int .i64 n,ivs a,ivs b,.int .i64 p] (ivs q.2)/\SW q.2:=by
  have key:∀q ∈ K,q.2=appS q.1 n a b p:=by
   rw[hK];intro q hq;simp only[List.mem_cons,List.not_mem_nil,or_false]at hq;rcases hq with rfl|rfl|rfl|rfl|rfl|rfl|rfl|rfl|rfl|rfl|rfl|rfl|rfl|rfl|rfl<;>rfl
  intro q hq;rw[key q hq];exact⟨qahb q.1 n a b p wa wb,qapx wa wb⟩
 have lK:K.length=15:=by rw[hK];rfl
 have c3:CQ prog quh [ivs a,ivs b,.int .i64 p] (ivs (appS 3 n a b p)):=qahc a b p wa wb;have c4:CQ prog quc [ivs a,ivs b,.int .i64 p] (ivs (appS 4 n a b p)):=qag7 a b p wa wb;have c5:=q8u a b p wa wb;have c6:CQ prog qug [ivs a,ivs b,.int .i64 p] (ivs (appS 6 n a b p)):=q8x a b p wa wb;have c7:=qahf a wa;have c8:CQ prog qrd [ivs a,.int .i64 n,.int .i64 p] (ivs (appS 8 n a b p)):=qaha a n p wa;have c9:CQ prog quf [ivs a,.int .i64 p] (ivs (appS 9 n a b p)):=q8w a p wa;have c10:CQ prog que [ivs a,.int .i64 p] (ivs (appS 10 n a b p)):=q8v a p wa;have c11:CQ prog qpj [ivs a,.int .i64 p] (.tup [ivs (appS 11 n a b p),ivs (appS 12 n a b p)]):=qqz a p wa;have c13:CQ prog qsn [ivs a,.int .i64 p] (ivs (appS 13 n a b p)):=qvz a p wa;have cr:=q63 a;have e5:appS 5 n a b p=if areB [a,b]=true then mulS a b p else []:=rfl;have e7:appS 7 n a b p=if areB [a]=true then negL a else []:=rfl;have lM:(mulS a b p).length=a.length:=qvr
 generalize appS 3 n a b p=L3 at *
 generalize appS 4 n a b p=L4 at *
 generalize appS 5 n a b p=L5 at *
 generalize appS 6 n a b p=L6 at *
 generalize appS 7 n a b p=L7 at *
 generalize appS 8 n a b p=L8 at *
 generalize appS 9 n a b p=L9 at *
 generalize appS 10 n a b p=L10 at *
 generalize appS 11 n a b p=L11 at *
 generalize appS 12 n a b p=L12 at *
 generalize appS 13 n a b p=L13 at *
 generalize negL a=N at *
 generalize mulS a b p=M at *
 have main:∀(n7:V) (l7:List Iv),n7=.sl (l7.map Iv.v)\/(n7=.nil/\l7=[])->L7=l7->True:=fun _ _ _ _=>trivial
 clear main;simp;refine zq c11 ?_;simp;refine zq cr ?_;cases ha:areB [a]
 ·have hb:areB [a,b]=false:=by
   cases hb:areB [a,b]
   ·rfl
   ·obtain⟨h1,h2,_⟩:=are2.1 hb;rw[are1.2 ⟨h1,h2⟩]at ha;cases ha
  rw[ha,if_neg (by decide)]at e7;rw[hb,if_neg (by decide)]at e5;simp only[hb,Bool.false_eq_true,if_false]at c5;subst e5 e7;simp[ivs];refine zq c3 ?_;simp;refine zq c4 ?_;simp;refine qdu rfl rfl rfl ⟨_,_,c5 _,?_⟩;simp;refine zq c6 ?_;simp;refine zq c8 ?_;simp;refine zq c9 ?_;simp;refine zq c10 ?_;simp;refine zq c13 ?_;simp[ivs];refine qqj (r:=H.length+1) (n:=n) (a:=a) (b:=b) (p:=p) lK fK (by simp[ivs]) (by simp[ivs]) (by simp) (by simp) (by simp) (by simp) (by simp) (by simp) (by simp[hK,qV,ivs]) fun E2 H2 hp=>?_
  have:=qbo hp;simp[this]
 ·have h1:=(are1.1 ha).1;rw[ha,if_pos rfl]at e7;subst e7;cases hb:areB [a,b]
  ·rw[hb,if_neg (by decide)]at e5;simp only[hb,Bool.false_eq_true,if_false]at c5;subst e5;simp;refine zq c7 ?_;simp[ivs];refine zq c3 ?_;simp;refine zq c4 ?_;simp;refine qdu rfl rfl rfl ⟨_,_,c5 _,?_⟩;simp;refine zq c6 ?_;simp;refine zq c8 ?_;simp;refine zq c9 ?_;simp;refine zq c10 ?_;simp;refine zq c13 ?_;simp[ivs];refine qqj (r:=H.length+1) (n:=n) (a:=a) (b:=b) (p:=p) lK fK (by simp[ivs]) (by simp[ivs]) (by simp) (by simp) (by simp) (by simp) (by simp) (by simp) (by simp[hK,qV,ivs]) fun E2 H2 hp=>?_
   have:=qbo hp;simp[this]
  ·rw[hb,if_pos rfl]at e5;simp only[hb,if_true]at c5;subst e5;have tM:List.take a.length (List.map Iv.v L5)=List.map Iv.v L5:=List.take_of_length_le (by simp[lM]);simp;refine zq c7 ?_;simp[ivs];refine zq c3 ?_;simp;refine zq c4 ?_;simp;refine qdu rfl rfl rfl ⟨_,_,c5 _,?_⟩;simp;refine zq c6 ?_;simp;refine zq c8 ?_;simp;refine zq c9 ?_;simp;refine zq c10 ?_;simp;refine zq c13 ?_;simp[ivs,tM,lM];refine qqj (r:=H.length+2) (n:=n) (a:=a) (b:=b) (p:=p) lK fK (by simp[ivs]) (by simp[ivs]) (by simp) (by simp) (by simp) (by simp) (by simp) (by simp) (by simp[hK,qV,ivs]) fun E2 H2 hp=>?_
   have:=qbo hp;simp[this]
end Go.Abs.W
