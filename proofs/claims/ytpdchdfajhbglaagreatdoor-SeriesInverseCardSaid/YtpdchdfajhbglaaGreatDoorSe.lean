/- Parts of the proof: FpSeI. -/
import Derived.Test.YtpdchdfajhbglaaGreatDoorSd
import Derived.Test.YtpdchdfajhbglaaGreatDoorHk
namespace Go.Abs.W
def Iv.pick (x:Iv):Rat:=if x.known=true then(x.lo.val:Rat)/sc else 0
theorem qmf {x:Iv}(w:x.W):x.In x.pick:=by
 intro k;have hs:=qdc;have l:=qa5 (qam w k);unfold Iv.pick;rw[if_pos k,Rat.div_mul_cancel (by grind)];exact⟨Rat.le_refl,l⟩
theorem qacz {k:Int}:(nI k k).In (k:Rat):=by
 intro _;have:((nD k).val:Rat)=(k:Rat)*sc:=by rw[qih,Rat.intCast_mul];rfl
 exact⟨by show((nD k).val:Rat)<=_;rw[this];exact Rat.le_refl,by show _<=((nD k).val:Rat);rw[this];exact Rat.le_refl⟩
def sumQ (f:Nat->Rat):Nat->Rat
 |0=>f 0
 |n+1=>sumQ f n+f (n+1)
theorem qtn {p:Int}{f:Nat->Iv}{q:Nat->Rat}(wf:∀i,(f i).W):∀n,(∀i,i<=n->(f i).In (q i))->(sumI p f n).In (sumQ q n)
 |0,h=>h 0 (Nat.le_refl _)
 |n+1,h=>ql5 (qnq (wf 0) n) (wf _) (qtn wf n fun i hi=>h i (by omega)) (h _ (Nat.le_refl _))
theorem qdg {f g:Nat->Rat}:∀n,(∀i,i<=n->f i=g i)->sumQ f n=sumQ g n
 |0,h=>h 0 (Nat.le_refl _)
 |n+1,h=>by rw[sumQ,sumQ,qdg n fun i hi=>h i (by omega),h _ (Nat.le_refl _)]
theorem qzf {f g:Nat->Rat}:∀n,sumQ (fun i=>f i+g i) n=sumQ f n+sumQ g n
 |0=>rfl
 |n+1=>by rw[sumQ,sumQ,sumQ,qzf n];grind
theorem qze {f:Nat->Rat}{c:Rat}:∀n,sumQ (fun i=>c*f i) n=c*sumQ f n
 |0=>rfl
 |n+1=>by rw[sumQ,sumQ,qze n];grind
theorem qo4 {f:Nat->Rat}:∀n,sumQ f (n+1)=f 0+sumQ (fun i=>f (i+1)) n
 |0=>rfl
 |n+1=>by rw[sumQ,qo4 n,sumQ];grind
theorem q71 {a b:List Iv}{p:Int}{A B:Nat->Rat}{k:Nat}(wa:∀x ∈ a,x.W)(wb:∀x ∈ b,x.W)(ha:∀i,i<=k->(at0 a i).In (A i))(hb:∀i,i<=k->(at0 b i).In (B i)):(mulC a b p k).In (sumQ (fun i=>A i*B (k-i)) k):=
 qtn (fun _=>mul_W) k fun i hi=>qn0 (at0_W wa) (at0_W wb) (ha i hi) (hb (k-i) (by omega))
theorem qal0 (A B:Nat->Rat)(k:Nat):(((k:Int)+1:Int):Rat)*sumQ (fun i=>A i*B (k+1-i)) (k+1) =
 sumQ (fun i=>((((i:Int)+1:Int):Rat)*A (i+1))*B (k-i)) k+sumQ (fun i=>A i*(((((k-i:Nat):Int)+1:Int):Rat)*B (k-i+1))) k:=by
 rw[<-qze];have e1:sumQ (fun i=>(((k:Int)+1:Int):Rat)*(A i*B (k+1-i))) (k+1)=sumQ (fun i=>((i:Int):Rat)*(A i*B (k+1-i))+(((k+1-i:Nat):Int):Rat)*(A i*B (k+1-i))) (k+1):=by
  refine qdg _ fun i hi=>?_
  have h:((k:Int)+1:Int)=(i:Int)+((k+1-i:Nat):Int):=by omega
  rw[h,Rat.intCast_add];grind
 rw[e1,qzf]
 congr 1
 ·rw[qo4];have z:((((0:Nat):Int):Rat))=0:=rfl;rw[z,Rat.zero_mul,Rat.zero_add];refine qdg _ fun i hi=>?_
  rw[show k+1-(i+1)=k-i by omega,show(((i+1:Nat):Int))=(i:Int)+1 by omega];grind
 ·rw[sumQ];have z:(((k+1-(k+1):Nat):Int):Rat)=0:=by rw[Nat.sub_self];rfl
  rw[z,Rat.zero_mul,Rat.add_zero];refine qdg _ fun i hi=>?_
  rw[show k+1-i=k-i+1 by omega,show(((k-i+1:Nat):Int))=((k-i:Nat):Int)+1 by omega];grind
end Go.Abs.W
