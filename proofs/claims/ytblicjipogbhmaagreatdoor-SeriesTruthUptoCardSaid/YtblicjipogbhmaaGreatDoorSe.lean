import Derived.Test.YtblicjipogbhmaaGreatDoorSc
import Derived.Test.YtblicjipogbhmaaGreatDoorHz
import Derived.Test.YtblicjipogbhmaaGreatDoorHk
namespace Go.Abs.W
theorem Iv.Le.whole {x:Iv}:x.Le Iv.whole:=.inl rfl
theorem n7 {d:Dy}(h:d.isZ=true):d=Dy.zero:=by
 rcases d with ⟨n,m,e⟩;simp[Dy.isZ]at h;simp[Dy.zero,h]
theorem Th {x a:Iv}(s:x.W)(r:a.W)(h:x.ins a=true):x.Le a:=by
 simp only[Iv.ins,VA,WF,abH,VT]at h;obtain⟨⟨k,c⟩,h⟩:=h;rcases h with h|⟨⟨j,e⟩,f⟩
 ·left;rw[Iv.valid,Vh h]at c;simp only[VA]at c;rcases a with ⟨l,u,b⟩;simp only at h c;rw[n7 c.1,n7 c.2,h];rfl
 ·cases d:a.all
  ·right;have g:x.known=true:=by simp[Iv.known,j,k]
   have i:a.known=true:=by simp[Iv.known,d,c]
   obtain⟨m,n⟩:=bg s g;obtain⟨o,q⟩:=bg r i;rw[gB o m,jw]at e;rw[gB n q,jw]at f;exact⟨g,i,e,f⟩
  ·left;rw[Iv.valid,Vh d]at c;simp only[VA]at c;rcases a with ⟨l,u,b⟩;simp only at d c;rw[n7 c.1,n7 c.2,d];rfl
def LeL (a x:List Iv):Prop:=a.length=x.length/\∀i,(aK a i).Le (aK x i)
def InL (a x:List Iv):Prop:=a.length=x.length/\∀i,i<a.length->(aK a i).ins (aK x i)=true
theorem Te {a:List Iv}{i:Nat}(h:a.length<=i):aK a i=Iv.whole:=by simp[aK,abl h]
theorem InL.le {a x:List Iv}(d:∀y ∈ a,y.W)(e:∀y ∈ x,y.W)(h:InL a x):LeL a x:=by
 refine⟨h.1,fun i=>?_⟩;rcases Vm i a.length with c|c
 ·exact Th (bh d) (bh e) (h.2 i c)
 ·rw[Te (a:=x) (by have:=h.1;omega)];exact .inl rfl
theorem InL.allB {a x:List Iv}(h:InL a x):(decide (a.length=x.length)&&Go.Abs.W.allB Iv.ins a x)=true:=by
 simp only[VA,VT];refine⟨h.1,?_⟩;rw[B9];intro i u v c hv;have hi:=(Vi.1 c).1;have:=h.2 i hi;simp only[aK,c,hv,Xd]at this;exact this
variable {a b x y : List Iv} {p : Int}
end Go.Abs.W
namespace Go.Abs.W
@[simp] theorem qiM {H:ab}{g:Nat}:d6 H (.fn g [])=some (.fn g [],H):=rfl
@[simp] theorem qgK : V.nilfn.cells=[.nilfn]:=rfl
@[simp] theorem qgG : V.nilfn.cellPure=true:=rfl
def Iv.pick (x:Iv):Rat:=if x.known=true then(x.lo.val:Rat)/sc else 0
theorem L1 {x:Iv}(w:x.W):x.In x.pick:=by
 intro k;have a:=dK;have l:=dt (bP w k);unfold Iv.pick;rw[Vh k,aaD (by grind)];exact⟨V2,l⟩
theorem vL {k:Int}:(nI k k).In (k:Rat):=by
 intro _;have:((nD k).val:Rat)=(k:Rat)*sc:=by rw[iP,VG];rfl
 exact⟨by show((nD k).val:Rat)<=_;rw[this];exact V2,by show _<=((nD k).val:Rat);rw[this];exact V2⟩
def jr (f:Nat->Rat):Nat->Rat
 |0=>f 0
 |n+1=>jr f n+f (n+1)
theorem zX {p:Int}{f:Nat->Iv}{q:Nat->Rat}(wf:∀i,(f i).W):∀n,(∀i,i<=n->(f i).In (q i))->(bj p f n).In (jr q n)
 |0,h=>h 0 (Vo _)
 |n+1,h=>iO (mU (wf 0) n) (wf _) (zX wf n fun i hi=>h i (by omega)) (h _ (Vo _))
theorem q5b {f g:Nat->Rat}:∀n,(∀i,i<=n->f i=g i)->jr f n=jr g n
 |0,h=>h 0 (Vo _)
 |n+1,h=>by rw[jr,jr,q5b n fun i hi=>h i (by omega),h _ (Vo _)]
