/- Parts of the proof: FpSeA, FpSeB. -/
import Derived.Test.YtpdchdfajhbglaaGreatDoorSa
import Derived.Test.YtpdchdfajhbglaaGreatDoorHy
namespace Go.Abs.W
def exA : List Iv:=varL (nI 1 1) 2
theorem qad9 : sqrtL exA 24=[nI 1 1,(nI 1 1).scl (-1),(nI (-1) (-1)).scl (-3)]:=by
 have h0:sqrtC exA 24 [] 0=nI 1 1:=by
  have e:at0 exA 0=nI (1*1) (1*1):=by decide +kernel
  simp only[sqrtC,e];exact qaiz (by omega) (by decide) (by decide) (by omega)
 have e:∀a,sqrtC exA 24 [] 0=a->sqrtL exA 24=[a,sqrtC exA 24 [a] 1,sqrtC exA 24 [a,sqrtC exA 24 [a] 1] 2]:=by
  rintro a rfl;rfl
 rw[e _ h0];decide +kernel
theorem qah8 : divL (conL (nI 1 1) 2) exA 24=[nI 1 1,nI (-1) (-1),nI 1 1]:=by decide +kernel
theorem qaj3 : SW exA:=⟨by decide,qaoc nI1_W⟩
theorem q69 {a b:List Iv}(wa:SW a)(h:a=b):CQ prog qpz [ivs a,ivs b] (.bool true):=by
 subst h;simpa using qab8 a a wa wa
theorem q9e {n0:Nat}{Q:AX->Env->Heap->Prop}{d:Bool}{dst:Option Nat}{l:List AOper}{K:List Fr}{E:Env}{H H1 H2:Heap}{x:X}{args caps vs:List V}{xs:List X}{g:Nat}{v:V}
 (hx:getX E x=.fn g caps) (ha:xs.map (getX E)++caps=args) (hp:prep prog g H args=some (vs,H1)) (h:Ev prog (.call g vs H1) (.ret v H2)) (k:WL prog n0 d l K (put E dst v) H2 Q):qsu prog n0 d dst x xs true l K E H Q:=
 qse hx ha hp ⟨_,_,h,fun h=>by simp at h,k⟩
theorem qaaq : CQ prog qvv [] (.bool true):=by
 refine qag rfl fun H=>?_
 have n1:=q6h 1 (by omega) (by omega);have n2:=q6h (-1) (by omega) (by omega);have w1:=nI1_W;have w2:(nI (-1) (-1)).W:=nI_W (by omega) (by omega);have v1:=qanh (nI 1 1) 2;have c1:=qwr (nI 1 1) 2;have s1:=ql6 (nI 1 1) (-1) w1;have s2:=ql6 (nI (-1) (-1)) (-3) w2;have q1:=q9g exA 24 qaj3;have d1:=qafx (conL (nI 1 1) 2) exA 24 ⟨by decide,qaj6 w1⟩ qaj3;rw[show(if ordB 2=true then varL (nI 1 1) (Int.toNat 2)else [])=exA from rfl]at v1;rw[show(if areB [exA]=true then sqrtL exA 24 else [])=sqrtL exA 24 from rfl,qad9]at q1;rw[show(if areB [conL (nI 1 1) 2,exA]=true then divL (conL (nI 1 1) 2) exA 24 else [])=divL (conL (nI 1 1) 2) exA 24 from rfl,qah8]at d1;have t1:=q69 (a:=[nI 1 1,(nI 1 1).scl (-1),(nI (-1) (-1)).scl (-3)]) ⟨by simp,by simp[w1,Iv.scl_W']⟩ rfl;have t2:=q69 (a:=[nI 1 1,nI (-1) (-1),nI 1 1]) ⟨by simp,by simp[w1,w2]⟩ rfl;simp only[show ordB 2=true from rfl,if_true,show(2:Int).toNat=2 from rfl]at c1
 generalize exA=A at *
 generalize hC:conL (nI 1 1) 2=C at *
 have lC:C.length=3:=by rw[<-hC];rfl
 have tC:List.take 3 (List.map Iv.v C)=List.map Iv.v C:=List.take_of_length_le (by simp[lC]);generalize (nI 1 1).scl (-1)=h1 at *
 generalize (nI (-1) (-1)).scl (-3)=h2 at *
 generalize nI 1 1=one at *
 generalize nI (-1) (-1)=two at *
 simp;refine zq n1 ?_;simp;refine zq v1 ?_;simp;refine zq n1 ?_;simp;refine zq s1 ?_;simp;refine zq q1 ?_;simp;refine zq n1 ?_;simp;refine qdr rfl rfl rfl ⟨_,_,c1 _,?_⟩;simp;refine qdr (vs:=[ivs C,ivs A,.int .i64 24]) rfl rfl (by simp[prep,frzVs,frzV,ivs,lC,tC];rfl) ⟨_,_,d1 _,?_⟩;simp;refine zq n1 ?_;simp;refine zq n2 ?_;simp;refine zq s2 ?_;simp;refine q9e (vs:=[ivs [one,h1,h2],ivs [one,h1,h2]]) rfl rfl (by simp[prep,frzVs,frzV,ivs];rfl) (t1 _) ?_;simp;refine zq n1 ?_;simp;refine zq n2 ?_;simp;refine zq n1 ?_;simp;refine q9e (vs:=[ivs [one,two,one],ivs [one,two,one]]) rfl rfl (by simp[prep,frzVs,frzV,ivs];rfl) (t2 _) ?_;simp
structure LL (a:List Iv):Prop where
 len:a.length<=9223372036854775807
 lm:∀x ∈ a,x.Lm
theorem qyn {p:Int}{l:List (List Iv)}(h:gr21 p l=false){a:List Iv}(ha:a ∈ l)(w:LL a):a.length<=30/\SW a:=by
 simp only[gr21,Bool.or_eq_false_iff]at h;have h1:=List.any_eq_false.1 h.2 a ha;simp only[qp9,Bool.or_eq_true,not_or,decide_eq_true_eq]at h1;refine⟨by omega,by omega,fun x hx=>?_⟩;have h2:¬(20<x.lo.m.length\/20<x.hi.m.length):=fun h=>h1.2 (List.any_eq_true.2 ⟨x,hx,by simpa[Iv.g21]using h⟩)
 have l:=w.lm x hx;exact⟨⟨l.1,by omega⟩,⟨l.2,by omega⟩⟩
end Go.Abs.W
