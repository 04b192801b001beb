import Derived.LoopN
import Derived.ProofKit
import Derived.Test.YtblicjipogbhmaaGreatDoorFc
import Derived.Test.YtblicjipogbhmaaGreatDoorF0
namespace Go.Abs
variable {T : Tab} {gid : Gid} {w w' w0 : World} {M M' M0 : Nat → Prop} {μ μ' μ0 μi : bp} {H Hi Hi1 He H0 : ab} {n0 : Nat}
def bQ (n:Nat)(μ:bp):bp:=fun b=>if b<n then μ b else none
theorem i3 {n:Nat}{μ:bp}:∀b x,bQ n μ b=some x->μ b=some x:=fun b x h=>by
 unfold bQ at h;split at h
 ·exact h
 ·cases h
theorem qG {n:Nat}{μ:bp}:∀b x,bQ n μ b=some x->b<n:=fun b x h=>by
 unfold bQ at h;split at h
 ·assumption
 ·cases h
theorem cy {A B:ab}(h:A <+: B){b:Nat}(a:b<A.length):B[b]?=A[b]?:=by
 obtain⟨C,rfl⟩:=h;rw[Vr a]
theorem pN {A B:ab}(h:A <+: B){b:Nat}{x:Option Blk}(a:A[b]?=some x):B[b]?=some x:=by
 rw[cy h (Vi.1 a).1];exact a
theorem DE {A B:ab}(h:A <+: B):A.length<=B.length:=h.length_le
theorem Sim.restrict (m:Sim gid w M μ He)(l:Hi <+: He)(C:jg Hi.length μ He):Sim gid w M (bQ Hi.length μ) Hi:=by
 refine⟨fun b x h=>qG b x h,fun s t c o z L N a g ⟨F,q⟩ ⟨G,r⟩=>m.inj s t c o z L N (i3 _ _ a) (i3 _ _ g) ⟨F,pN l q⟩ ⟨G,pN l r⟩,fun b c o z k a g=>?_,m.tab⟩;have d:=m.blk b c o z k (i3 _ _ a) (pN l g);obtain⟨arr,e,I,J,K⟩:=d.lay;have f:=C b k (qG _ _ a) (by rw[i3 _ _ a];simp) (pN l g);refine⟨d.hz,d.hM,d.hF,⟨arr,e,I,J,fun i el hi=>?_⟩,d.pur⟩;obtain⟨u,y,A⟩:=K i el hi;refine⟨u,y,fun j cv p=>?_⟩;obtain⟨v,hv,D⟩:=A j cv p;exact⟨v,hv,D.low (Keep.refl w M) (Shape.refl w) (n:=Hi.length) (fun b x B E=>by unfold bQ;rw[Vh B];exact E) (f el (VX hi) cv (VX p))⟩
theorem Ca {N b:Nat}{k:Blk}:¬(List.replicate N (none:Option Blk))[b]?=some (some k):=by
 intro h;rw[Yp]at h;split at h<;>cases h
theorem Sim.dead {N:Nat}(tb:Tabs gid w M)(c:∀b x,μ b=some x->b<N):Sim gid w M μ (List.replicate N none):=
 ⟨fun b x h=>by simpa using c b x h,fun _ _ _ _ _ _ _ _ _ ⟨_,a⟩ _=>absurd a Ca,fun _ _ _ _ _ _ h=>absurd h Ca,tb⟩
theorem Step.of_dead {N:Nat}(f:Sim gid w M μ He)(st:Step gid n0 w M μi (List.replicate N none) w' M' μ' (List.replicate N none)):Step gid n0 w M μ He w' M' μ He:=by
 have fr:∀c,c<w.heap.size->w'.heap[c]?=w.heap[c]?:=fun c a=>st.frame c a fun b _ _ _ ⟨k,d,_⟩=>Ca d
 have i:Keep w M w' M':=⟨st.size,fun c a _=>fr c a,fun c a e=>(st.sub c e).resolve_right (by omega)⟩
 have g:∀c,c<w.heap.size->M c->M' c:=fun c a e=>st.keepM c a e fun b _ _ _ ⟨k,d,_⟩=>Ca d
 refine⟨⟨f.dom,f.inj,fun b c o z k j l=>?_,f.tab.keep i⟩,fun _ _=>rfl,Vo _,st.size,fun c a _=>fr c a,st.shape,st.sub,fun c a e _=>g c a e,fun b c o z n h=>absurd (f.dom b _ h) (by omega),
  fun _ _ h=>h,fun _ _ h=>h,fun _ _ h=>h,st.os,st.tape,st.output⟩
 have d:=f.blk b c o z k j l;exact d.mono i st.shape (fun _ _ h=>h) (fr c d.lt) fun m=>g c d.lt (d.hM m)
theorem Step.extend (e:Sim gid w M μ H)(f:H <+: He):Step gid n0 w M μ H w M μ He:=by
 have al:∀b x,μ b=some x->He[b]?=H[b]?:=fun b x h=>cy f (e.dom b x h)
 refine⟨⟨fun b x h=>Vx (e.dom b x h) (DE f),fun i j c o z u v a d ⟨s,l⟩ ⟨t,m⟩=>e.inj i j c o z u v a d ⟨s,by rw[<-al i _ a];exact l⟩ ⟨t,by rw[<-al j _ d];exact m⟩,
  fun b c o z k a d=>e.blk b c o z k a (by rw[<-al b _ a];exact d),e.tab⟩,fun _ _=>rfl,DE f,Vo _,fun _ _ _=>rfl,Shape.refl w,fun _ h=>.inl h,fun _ _ h _=>h,
  fun b c o z g h=>absurd (e.dom b _ h) (by omega),fun b g ⟨k,a,d⟩=>⟨k,by rw[<-cy f g];exact a,d⟩,fun b g ⟨k,a⟩=>⟨k,by rw[<-cy f g];exact a⟩,
  fun n _ q b k a d p=>?_,rfl,rfl,rfl⟩
 obtain⟨x,r⟩:=Option.ne_none_iff_exists'.1 d;exact q b k a d (by rw[<-al b x r];exact p)
theorem Step.merge (A:Step gid n0 w0 M0 μ0 H0 w M μ He)(h0i:H0.length<=Hi.length)(hn:n0<=H0.length)(hp:Hi <+: Hi1)(j:Hi1 <+: He)
 (L:∀b,Hi.length<=b->b<Hi1.length->μ b=none) (hsr:Sim gid w M (bQ Hi.length μ) Hi) (B:Step gid n0 w M (bQ Hi.length μ) Hi w' M' μi Hi1) :
 Step gid n0 w0 M0 μ0 H0 w' M' (fun b=>if b<Hi1.length then μi b else μ b) He:=by
 have D:Hi <+: He:=hp.trans j;have G:=A.sim;have hlt:Hi.length<=Hi1.length:=DE hp;have e:∀b,b<Hi.length->μi b=μ b:=fun b g=>by rw[B.ext b g];unfold bQ;rw[Vh g]
 have kp:Keep w M w' M':=B.keep hsr;have mm:∀b x,μ b=some x->(if b<Hi1.length then μi b else μ b)=some x:=by
  intro b x g;split
  ·rename_i d;by_cases f:b<Hi.length
   ·rw[e b f];exact g
   ·rw[L b (by omega) d]at g;cases g
  ·exact g
 have s:∀b c o z,Hi.length<=b->μi b=some (c,o,z)->dJ He b->w.heap.size<=c:=by
  intro b c o z g N ⟨k,i⟩;rcases B.fresh b c o z g N with d|⟨b0,I,J,d,⟨k0,f,v⟩⟩
  ·exact d
  ·have Y:b<Hi1.length:=B.sim.dom b _ N;have:=B.sim.inj b0 b c I J o z (by rw[B.ext b0 (qG _ _ d)];exact d) N ⟨k0,pN hp f⟩ ⟨k,by rw[<-cy j Y];exact i⟩;have:=qG _ _ d;omega
 have quiet:∀c,c<w0.heap.size->(∀b o z,μ0 b=some (c,o,z)->¬fR H0 b)->∀b o z,bQ Hi.length μ b=some (c,o,z)->¬fR Hi b:=by
  intro c r t b o z g ⟨k,i,O⟩;have p:=i3 _ _ g;by_cases C:b<H0.length
  ·exact t b o z (by rw[<-A.ext b C];exact p) (A.wrmono b C ⟨k,pN D i,O⟩)
  ·rcases A.fresh b c o z (by omega) p with d|⟨b0,I,J,d,f⟩
   ·omega
   ·exact t b0 I J d f
 refine⟨⟨?_,?_,?_,B.sim.tab⟩,?_,A.len,Vp A.size B.size,?_,A.shape.trans B.shape,?_,?_,?_,A.wrmono,A.alv,?_,B.os.trans A.os,B.tape.trans A.tape,B.output.trans A.output⟩
 ·intro b x P;have:=DE j;split at P
  ·omega
  ·exact G.dom b x P
 ·intro Q S c o z l m d f E F;have u:∀b h c o z l m,b<Hi1.length->Hi1.length<=h->μi b=some (c,o,z)->μ h=some (c,l,m)->dJ He b->dJ He h->b=h:=by
   intro b h c o z l m K U W g4 a a';by_cases g5:b<Hi.length
   ·rw[e b g5]at W;exact G.inj b h c o z l m W g4 a a'
   ·have:=s b c o z (by omega) W a;obtain⟨k',y⟩:=a';have:=(G.blk h c l m k' g4 y).lt;omega
  split at d<;>split at f
  ·rename_i K U;obtain⟨k1,E⟩:=E;obtain⟨k2,F⟩:=F;exact B.sim.inj Q S c o z l m d f ⟨k1,by rw[<-cy j K];exact E⟩ ⟨k2,by rw[<-cy j U];exact F⟩
  ·exact u Q S c o z l m (by assumption) (by omega) d f E F
  ·exact(u S Q c l m o z (by assumption) (by omega) f d F E).symm
  ·exact G.inj Q S c o z l m d f E F
 ·intro b c o z k d f;split at d
  ·rename_i K;have i:=B.sim.blk b c o z k d (by rw[<-cy j K];exact f);exact i.mono (Keep.refl w' M') (Shape.refl w') (fun h x P=>by rw[Vh (B.sim.dom h x P)];exact P) rfl i.hM
  ·rename_i K;have i:=G.blk b c o z k d f;have q:∀h l m,bQ Hi.length μ h=some (c,l,m)->¬fR Hi h:=by
    intro h l m p ⟨k',y,_⟩;have:=G.inj h b c l m o z (i3 _ _ p) d ⟨k',pN D y⟩ ⟨k,f⟩;have:=qG _ _ p;omega
   exact i.mono kp B.shape mm (B.frame c i.lt q) fun O=>B.keepM c i.lt (i.hM O) q
 ·intro b g;rw[Vh (by omega),e b (by omega),A.ext b g]
 ·intro c r t;rw[B.frame c (Vx r A.size) (quiet c r t),A.frame c r t]
 ·intro c r;rcases B.sub c r with d|d
  ·exact A.sub c d
  ·exact .inr (Vp A.size d)
 ·intro c r N t;exact B.keepM c (Vx r A.size) (A.keepM c r N t) (quiet c r t)
 ·intro b c o z g d;split at d
  ·by_cases U:b<Hi.length
   ·rw[e b U]at d;exact A.fresh b c o z g d
   ·rcases B.fresh b c o z (by omega) d with v|⟨b0,I,J,v,⟨k,i,O⟩⟩
    ·exact .inl (Vp A.size v)
    ·by_cases C:b0<H0.length
     ·exact .inr ⟨b0,I,J,by rw[<-A.ext b0 C];exact i3 _ _ v,A.wrmono b0 C ⟨k,pN D i,O⟩⟩
     ·exact A.fresh b0 c I J (by omega) (i3 _ _ v)
  ·exact A.fresh b c o z g d
 ·intro n Z C b k d f v;have f:(if b<Hi1.length then μi b else μ b)≠none:=f;rw[Vh (by omega),e b (by omega)]at f;exact A.low n Z C b k d f v
theorem Y7 (bits:List Nat):∀(after:List Edge) (s k:Nat),(after.foldl (fun s e=>if Region.binds .any e then s |||2^e.on |||bits.getD e.on 0 else s) s).testBit k=true ->
 s.testBit k=true\/∃e ∈ after,Region.binds .any e=true/\(k=e.on\/(bits.getD e.on 0).testBit k=true)
 | [],s,k,h=>.inl h
 |e :: after,s,k,h=>by
  rw[aap]at h;rcases Y7 bits after _ k h with a|⟨c,a,d,f⟩
  ·split at a
   ·rename_i b;rw[Nat.testBit_or,Nat.testBit_or,WF,WF]at a;rcases a with (a|a)|a
    ·exact .inl a
    ·refine .inr ⟨e,by simp,b,.inl ?_⟩;rw[Nat.testBit_two_pow]at a;simp at a;exact a.symm
    ·exact .inr ⟨e,by simp,b,.inr a⟩
   ·exact .inl a
  ·exact .inr ⟨c,by simp[a],d,f⟩
theorem Y6 : ∀(l:List Oper) (acc:List Nat),∃r,eW l acc=acc++r/\r.length=l.length
 | [],acc=>⟨[],by simp[eW],rfl⟩
 |o :: l,acc=>by
  obtain⟨r,a,b⟩:=Y6 l (acc++[tW acc o.after.toList]);exact⟨tW acc o.after.toList :: r,by rw[eW,a];simp,by simp[b]⟩
theorem q3q : ∀(l:List Oper) (acc:List Nat) (j:Nat) (o:Oper),l[j]?=some o ->
 ∃a,(eW l acc).getD (acc.length+j) 0=tW a o.after.toList/\a.length=acc.length+j/\∀i,i<acc.length+j->a.getD i 0=(eW l acc).getD i 0
 | [],acc,j,o,h=>by simp at h
 |x :: l,acc,0,o,h=>by
  simp at h;subst h;obtain⟨r,b,c⟩:=Y6 l (acc++[tW acc x.after.toList]);refine⟨acc,?_,by simp,fun i hi=>?_⟩
  ·rw[eW,b];simp[List.getD]
  ·rw[eW,b];simp only[List.getD,XG];rw[Vr (by omega)]
 |x :: l,acc,j+1,o,h=>by
  obtain⟨a,b,c,d⟩:=q3q l (acc++[tW acc x.after.toList]) j o (by simpa using h);simp only[Xc,Xx]at b c d;refine⟨a,?_,by omega,fun i hi=>?_⟩
  ·rw[eW,show acc.length+(j+1)=acc.length+1+j by omega];exact b
  ·rw[eW];exact d i (by omega)
theorem Am {l:List Oper}{j k:Nat}{o:Oper}(p:l[j]?=some o)(n:qQ j o=true)(h:gL (eW l []) k j=true) :
 ∃e ∈ o.after.toList,Region.binds .any e=true/\e.on<j/\(k=e.on\/gL (eW l []) k e.on=true):=by
 obtain⟨a,f,m,g⟩:=q3q l [] j o p;simp only[abf,W1]at f m g;unfold gL at h;rw[f]at h;rcases Y7 a o.after.toList 0 k h with d|⟨e,d,i,b⟩
 ·simp at d
 ·have c:e.on<j:=by
   have:=VU.1 n e d;simp[i]at this;exact this
  refine⟨e,d,i,c,?_⟩;rcases b with b|b
  ·exact .inl b
  ·right;unfold gL;rw[<-g e.on c];exact b
def Closed (ops:List Oper)(D:Nat->Prop):Prop:=∀(i:Nat) (o:Oper),D i->ops[i]?=some o->∀e ∈ o.after.toList,Region.binds .any e=true->D e.on
theorem Closed.before {l:List Oper}{D:Nat->Prop}(m:Closed l D)(n:∀(i:Nat) (o:Oper),l[i]?=some o->qQ i o=true) :
 ∀(j:Nat),D j->j<l.length->∀k,gL (eW l []) k j=true->D k:=by
 intro j;induction j using Nat.strongRecOn with
 |_ j r=>
  intro p b k q;have c:=k9 b;obtain⟨e,f,g,h,a⟩:=Am c (n j _ c) q;have d:=m j _ p c e f g;rcases a with rfl|a
  ·exact d
  ·exact r e.on h d (by omega) k a
theorem CK {l:List Oper}{D:Nat->Prop}(g:Closed l D)(c:∀(i:Nat) (o:Oper),l[i]?=some o->qQ i o=true){i:Nat}{o:Oper}(hi:l[i]?=some o)
 (j:∀e ∈ o.after.toList,Region.binds .any e=true->D e.on):∀k,gL (eW l []) k i=true->D k:=by
 intro k h;obtain⟨e,d,f,m,a⟩:=Am hi (c i o hi) h;have b:=j e d f;rcases a with rfl|a
 ·exact b
 ·have:i<l.length:=(Vi.1 hi).1;exact g.before c e.on b (by omega) k a
end Go.Abs
namespace Go.Abs
variable {T : Tab}
def Yt (T:Tab)(n0:Nat)(o:Oper)(ao:AOper)(E:aA)(H:ab)(v:V)(H1:ab):Prop:=
 (gd ao E=some false/\v=.undef/\H1=H) \/
 (gd ao E=some true/\d4 T n0 o ao.op.reads E H v H1/\H.length<=H1.length/\(ao.sync=false->H <+: H1)/\(ao.op.loud=false->H1=H/\((∀Hc,d4 T n0 o ao.op.reads E Hc v Hc)\/si T n0 o ao.op E H v)) /\
  (∀z x y av,ao.op=.storeN z x y av->∀t ∈ av,∀b i off,E t=.ptr b i off->H1[b]?=H[b]?) /\
  (eY ao.op=true->∀(b:Nat) (k:Blk),b<H.length->H1[b]?=some (some k)->H[b]?=some (some k)))
structure Run (T:Tab)(n0:Nat)(ops:Array Oper)(l:List Oper)(al:List AOper)(Es:Nat->aA)(Hs:Nat->ab)(vs:Nat->V):Prop where
 len:al.length=l.length
 link:∀(i:Nat) (o:Oper) (ao:AOper),l[i]?=some o->al[i]?=some ao->Link T ops o ao
 env:∀(i:Nat) (ao:AOper),al[i]?=some ao->Es (i+1)=put (Es i) ao.dst (vs i)
 at_:∀(i:Nat) (o:Oper) (ao:AOper),l[i]?=some o->al[i]?=some ao->Yt T n0 o ao (Es i) (Hs i) (vs i) (Hs (i+1))
theorem Tr.run {n0:Nat}{ops:Array Oper}{l:List Oper}{al:List AOper}{E:aA}{H:ab}{n:aA}{p:ab}(h:Tr T n0 true ops l al E H n p) :
 ∃Es Hs vs,Run T n0 ops l al Es Hs vs/\Es 0=E/\Hs 0=H/\Es l.length=n/\Hs l.length=p:=by
 induction h with
 | @nil E H=>exact⟨fun _=>E,fun _=>H,fun _=>.undef,⟨rfl,by simp,by simp,by simp⟩,rfl,rfl,rfl,rfl⟩
 | @skip o q os r E H n p B A _ C=>
  obtain⟨Es,Hs,vs,e,s,f,u,w⟩:=C;refine⟨fun i=>match i with|0=>E|i+1=>Es i,fun i=>match i with|0=>H|i+1=>Hs i,fun i=>match i with|0=>.undef|i+1=>vs i,⟨by simp[e.len],?_,?_,?_⟩,rfl,rfl,u,w⟩
  ·intro i j a d c;cases i with
   |zero=>simp at d c;subst d;subst c;exact B
   |succ i=>exact e.link i j a (by simpa using d) (by simpa using c)
  ·intro i a c;cases i with
   |zero=>simp at c;subst c;exact s
   |succ i=>exact e.env i a (by simpa using c)
  ·intro i j a d c;cases i with
   |zero=>simp at d c;subst d;subst c;exact .inl ⟨A,rfl,f⟩
   |succ i=>exact e.at_ i j a (by simpa using d) (by simpa using c)
 | @step o q os r E H v J n p B A D len pre quiet m g _ C=>
  obtain⟨Es,Hs,vs,e,s,f,u,w⟩:=C;refine⟨fun i=>match i with|0=>E|i+1=>Es i,fun i=>match i with|0=>H|i+1=>Hs i,fun i=>match i with|0=>v|i+1=>vs i,⟨by simp[e.len],?_,?_,?_⟩,rfl,rfl,u,w⟩
  ·intro i j a d c;cases i with
   |zero=>simp at d c;subst d;subst c;exact B
   |succ i=>exact e.link i j a (by simpa using d) (by simpa using c)
  ·intro i a c;cases i with
   |zero=>simp at c;subst c;exact s
   |succ i=>exact e.env i a (by simpa using c)
  ·intro i j a d c;cases i with
   |zero=>
    simp at d c;subst d;subst c;refine .inr ⟨A,?_,?_,fun I=>?_,fun G=>?_,?_,?_⟩
    ·show d4 T n0 o q.op.reads E H v (Hs 0);rw[f];exact D
    ·show H.length<=(Hs 0).length;rw[f];exact len
    ·show H <+: Hs 0;rw[f];exact pre rfl I
    ·show Hs 0=H/\_;rw[f];exact quiet G
    ·show ∀z x y F,q.op=.storeN z x y F->∀t ∈ F,∀b i off,E t=.ptr b i off->(Hs 0)[b]?=H[b]?;rw[f];exact m
    ·show eY q.op=true->∀(b:Nat) (k:Blk),b<H.length->(Hs 0)[b]?=some (some k)->H[b]?=some (some k);rw[f];exact g
   |succ i=>exact e.at_ i j a (by simpa using d) (by simpa using c)
section
variable {n0 : Nat} {ops : Array Oper} {l : List Oper} {al : List AOper} {Es : Nat → aA} {Hs : Nat → ab} {vs : Nat → V}
def cP (al:List AOper)(j:Nat):Option Nat:=(al[j]?).bind (·.dst)
def jk (al:List AOper)(j:Nat):Prop:=∃ao,al[j]?=some ao/\ao.op.loud=true
def pn (al:List AOper)(j:Nat):Prop:=∃ao,al[j]?=some ao/\ao.sync=true
theorem Run.mono (b:Run T n0 ops l al Es Hs vs){i j:Nat}(h:i<=j)(g:j<=l.length):(Hs i).length<=(Hs j).length:=by
 induction j with
 |zero=>
  have:i=0:=by omega
  subst this;exact Vo _
 |succ j f=>
  rcases Vm i (j+1)with c|c
  ·refine Vp (f (by omega) (by omega)) ?_;have e:=k9 (show j<l.length by omega);have d:=k9 (show j<al.length by rw[b.len];omega);rcases b.at_ j _ _ e d with ⟨_,_,a⟩|⟨_,_,a,_⟩
   ·rw[a];exact Vo _
   ·exact a
  ·have:i=j+1:=by omega
   subst this;exact Vo _
theorem Run.pre (b:Run T n0 ops l al Es Hs vs){s:Nat}{i j:Nat}(q:s<=i)(h:i<=j)(p:j<=l.length)(g:∀k,s<=k->k<j->jk al k->¬pn al k):Hs i <+: Hs j:=by
 induction j with
 |zero=>
  have:i=0:=by omega
  subst this;exact VJ _
 |succ j o=>
  rcases Vm i (j+1)with c|c
  ·refine(o (by omega) (by omega) (fun k c a=>g k c (by omega))).trans ?_;have n:=k9 (show j<l.length by omega);have d:=k9 (show j<al.length by rw[b.len];omega);rcases b.at_ j _ _ n d with ⟨_,_,a⟩|⟨_,_,_,a,m,_⟩
   ·rw[a];exact VJ _
   ·by_cases f:(al[j]'(by rw[b.len];omega)).op.loud=true
    ·apply a;have:=g j (by omega) (by omega) ⟨_,d,f⟩;cases e:(al[j]'(by rw[b.len];omega)).sync with
     |false=>rfl
     |true=>exact absurd ⟨_,d,e⟩ this
    ·rw[(m (by simpa using f)).1];exact VJ _
  ·have:i=j+1:=by omega
   subst this;exact VJ _
theorem Run.val (h:Run T n0 ops l al Es Hs vs)(t:Nat):∀m,m<=l.length ->
 (∃j,j<m/\cP al j=some t/\(∀c,c<m->cP al c=some t->c<=j)/\Es m t=vs j)\/((∀j,j<m->cP al j≠some t)/\Es m t=Es 0 t)
 |0,_=>.inr ⟨by simp,rfl⟩
 |m+1,u=>by
  have n:=k9 (show m<al.length by rw[h.len];omega);have o:=h.env m _ n;by_cases a:cP al m=some t
  ·refine .inl ⟨m,by omega,a,fun c i _=>by omega,?_⟩;unfold cP at a;rw[n]at a;simp only[V3]at a;rw[o,a];simp[put,iL]
  ·have b:Es (m+1) t=Es m t:=by
    rw[o];unfold cP at a;rw[n]at a;simp only[V3]at a;cases s:(al[m]'(by rw[h.len];omega)).dst with
    |none=>rfl
    |some d=>
     rw[s]at a;have:t≠d:=fun e=>a (by rw[e])
     simp[put,iL,this]
   rcases h.val t m (by omega)with ⟨j,i,k,p,q⟩|⟨i,k⟩
   ·refine .inl ⟨j,by omega,k,fun c r f=>?_,by rw[b];exact q⟩;rcases Vm c m with g|g
    ·exact p c g f
    ·have:c=m:=by omega
     subst this;exact absurd f a
   ·refine .inr ⟨fun j r f=>?_,by rw[b];exact k⟩;rcases Vm j m with g|g
    ·exact i j g f
    ·have:j=m:=by omega
     subst this;exact a f
theorem vX (al:List AOper)(n:Nat):∀(d s:Nat),n-s=d->s<=n->∃e,s<=e/\e<=n/\(∀k,s<=k->k<e->jk al k->¬pn al k)/\(e=n\/(e<n/\jk al e/\pn al e))
 |0,s,h,f=>⟨s,Vo _,f,fun k g b=>by omega,.inl (by omega)⟩
 |d+1,s,h,f=>by
  by_cases c:jk al s/\pn al s
  ·exact⟨s,Vo _,f,fun k g b=>by omega,.inr ⟨by omega,c.1,c.2⟩⟩
  ·obtain⟨e,g,b,m,o⟩:=vX al n d (s+1) (by omega) (by omega);refine⟨e,by omega,b,fun k p q j a=>?_,o⟩;rcases Yl p with i|i
   ·subst i;exact c ⟨j,a⟩
   ·exact m k (by omega) q j a
variable {w0 : World} {M0 : Nat → Prop} {μ0 : bp}
structure HInv (T:Tab)(n0:Nat)(al:List AOper)(n:Nat)(Hs:Nat->ab)(w0:World)(M0:Nat->Prop)(μ0:bp)(D:Nat->Prop)(w:World)(M:Nat->Prop)(μ:bp)(s e:Nat):Prop where
 se:s<=e
 en:e<=n
 lo:∀j,j<s->jk al j->D j
 hi:∀j,e<=j->jk al j->¬D j
 seg:∀k,s<=k->k<e->jk al k->¬pn al k
 last:e=n\/(e<n/\jk al e/\pn al e)
 step:Step T.gid n0 w0 M0 μ0 (Hs 0) w M μ (Hs e)
 dom:∀b x,μ b=some x->b<(Hs s).length\/∃j,s<=j/\j<e/\D j/\(Hs j).length<=b/\b<(Hs (j+1)).length
 low:∀k,s<=k->k<=e->jg (Hs k).length μ (Hs e)
theorem HInv.begin (r:Run T n0 ops l al Es Hs vs){D:Nat->Prop}{w:World}{M:Nat->Prop}{μ:bp}{s:Nat}(G:s<=l.length)(lo:∀j,j<s->jk al j->D j)
 (hi:∀j,s<=j->jk al j->¬D j) (st:Step T.gid n0 w0 M0 μ0 (Hs 0) w M μ (Hs s)):∃e,HInv T n0 al l.length Hs w0 M0 μ0 D w M μ s e:=by
 obtain⟨e,d,f,g,B⟩:=vX al l.length _ s rfl G;refine⟨e,d,f,lo,fun j u=>hi j (by omega),g,B,st.trans (Step.extend st.sim (r.pre (Vo _) d f g)),fun b x a=>.inl (st.sim.dom b x a),fun k q E b H K F y el n c C=>?_⟩;obtain⟨⟨A,o,z⟩,a⟩:=Option.ne_none_iff_exists'.1 F;have m:=st.sim.dom b _ a;rw[cy (r.pre (Vo _) d f g) m]at y;obtain⟨arr,J,L,N,I⟩:=(st.sim.blk b A o z H a y).lay;obtain⟨i,p⟩:=Wa n;obtain⟨j,u⟩:=Wa C;obtain⟨v,_,t⟩:=(I i el p).2.2 j c u;exact(t.toLow (fun b x h=>st.sim.dom b x h)).mono (r.mono q (by omega))
def EInv (T:Tab)(al:List AOper)(n:Nat)(Es:Nat->aA)(Hs:Nat->ab)(vs:Nat->V)(D:Nat->Prop)(tmps:Array Value)(w:World)(M:Nat->Prop)(μ:bp):Prop:=
 ∀t,(∃j,j<n/\D j/\cP al j=some t/\(∀j',j'<n->D j'->cP al j'=some t->j'<=j)/\R T.gid w M (bQ (Hs (j+1)).length μ) (tmps.getD t Go.undef) (vs j)) \/
  ((∀j,j<n->D j->cP al j≠some t)/\R T.gid w M (bQ (Hs 0).length μ) (tmps.getD t Go.undef) (Es 0 t))
theorem xf {n m:Nat}(h:n<=m){μ:bp}:∀b x,bQ n μ b=some x->bQ m μ b=some x:=fun b x a=>by
 have d:=qG _ _ a;have c:=i3 _ _ a;unfold bQ;rw[Vh (by omega)];exact c
theorem Ap {n:Nat}{μ μ':bp}(h:∀b x,μ b=some x->μ' b=some x):∀b x,bQ n μ b=some x->bQ n μ' b=some x:=fun b x a=>by
 have c:=qG _ _ a;have d:=h _ _ (i3 _ _ a);unfold bQ;rw[Vh c];exact d
structure Static (l:List Oper)(al:List AOper):Prop where
 down:∀(i:Nat) (o:Oper),l[i]?=some o->qQ i o=true
 self:∀(i:Nat) (o:Oper) (ao:AOper),l[i]?=some o->al[i]?=some ao->rV ao=true
 pair:∀(i j:Nat) (a b:AOper),i<j->al[i]?=some a->al[j]?=some b->um (eW l []) i j a b=true
theorem Static.clash (f:Static l al){i j:Nat}{a b:AOper}(h:i<j)(c:al[i]?=some a)(d:al[j]?=some b)(e:uM a b=true):gL (eW l []) i j=true:=by
 have:=f.pair i j a b h c d;unfold um at this;rw[e]at this;simp at this;exact this.1.2
theorem Static.late (q:Static l al){i j:Nat}{a b:AOper}(h:i<j)(n:al[i]?=some a)(o:al[j]?=some b){f:Bool}{z t:Nat}(e:a.op=.sload f z t) :
 b.dst≠some t/\(b.sync=true->b.op.loud=true->gL (eW l []) i j=true\/∃z x y d,b.op=.storeN z x y d/\t ∈ d):=by
 have:=q.pair i j a b h n o;unfold um rY at this;rw[e]at this;simp only[VA]at this;obtain⟨⟨⟨⟨m,c⟩,_⟩,_⟩,_⟩:=this;refine⟨by simpa using m,fun g k=>?_⟩;rw[g,k]at c;simp only[Bool.and_self,abx,aaN,WF]at c;rcases c with c|c
 ·exact .inl c
 ·right;split at c
  ·rename_i z x y d p;exact⟨z,x,y,d,p,by simpa using c⟩
  ·cases c
theorem Static.early (m:Static l al){i j:Nat}{a b:AOper}(h:i<j)(g:al[i]?=some a)(k:al[j]?=some b){d:Bool}{z t:Nat}(c:b.op=.sload d z t)(e:a.sync=true)(f:a.op.loud=true) :
 gL (eW l []) i j=true\/eY a.op=true:=by
 have:=m.pair i j a b h g k;unfold um rY at this;rw[c,e,f]at this;simp only[VA]at this;simpa using this.1.1.2
theorem Run.still (f:Run T n0 ops l al Es Hs vs)(n:Static l al){i:Nat}{u:AOper}(s:al[i]?=some u){G:Bool}{z t b k off:Nat}(m:u.op=.sload G z t)(D:Es i t=.ptr b k off)(E:b<(Hs i).length)
 (p:Hs (i+1)=Hs i) (g:u.dst≠some t):∀e,i<=e->e<=l.length->(∀j,i<j->j<e->jk al j->pn al j->gL (eW l []) i j=false)->(Hs e)[b]?=(Hs i)[b]?/\Es e t=Es i t
 |0,h,_,_=>by
  have:i=0:=by omega
  subst this;exact⟨rfl,rfl⟩
 |e+1,h,Q,F=>by
  rcases Vm i (e+1)with K|K
  ·obtain⟨J,C⟩:=f.still n s m D E p g e (by omega) (by omega) fun j c q=>F j c (by omega)
   have a:=k9 (show e<al.length by rw[f.len];omega);have A:=k9 (show e<l.length by omega);have O:(al[e]'(by rw[f.len];omega)).dst≠some t:=by
    rcases Yl (show i<=e by omega)with c|c
    ·subst c;rw[s]at a;injection a with a
     rw[<-a];exact g
    ·exact(n.late c s a m).1
   have v:Es (e+1) t=Es e t:=by
    rw[f.env e _ a];cases B:(al[e]'(by rw[f.len];omega)).dst with
    |none=>rfl
    |some d=>
     have:t≠d:=fun I=>O (by rw[B,I])
     simp[put,iL,this]
   refine⟨?_,v.trans C⟩;rcases Yl (show i<=e by omega)with c|c
   ·subst c;rw[p]
   ·rw[<-J];rcases f.at_ e _ _ A a with ⟨_,_,q⟩|⟨_,_,_,q,L,M⟩
    ·rw[q]
    ·cases w:(al[e]'(by rw[f.len];omega)).op.loud with
     |false=>rw[(L w).1]
     |true=>
      cases o:(al[e]'(by rw[f.len];omega)).sync with
      |false=>exact cy (q o) (Vx E (f.mono (by omega) (by omega)))
      |true=>
       rcases(n.late c s a m).2 o w with r|⟨P,x,y,H,r,N⟩
       ·rw[F e c (by omega) ⟨_,a,w⟩ ⟨_,a,o⟩]at r;cases r
       ·exact M.1 P x y H r t N b k off (by rw[C];exact D)
  ·have:i=e+1:=by omega
   subst this;exact⟨rfl,rfl⟩
theorem Run.back (f:Run T n0 ops l al Es Hs vs){b:Nat}{k:Blk}:∀(d e:Nat),e+d<=l.length->b<(Hs e).length->(Hs (e+d))[b]?=some (some k)->(∀j,e<=j->j<e+d->jk al j->pn al j->∃m,al[j]?=some m/\eY m.op=true)->(Hs e)[b]?=some (some k)
 |0,_,_,_,c,_=>c
 |d+1,e,x,p,c,r=>by
  refine f.back d e (by omega) p ?_ fun j t w=>r j t (by omega)
  have a:=k9 (show e+d<al.length by rw[f.len];omega);have o:=k9 (show e+d<l.length by omega);have g:b<(Hs (e+d)).length:=Vx p (f.mono (by omega) (by omega));rcases f.at_ (e+d) _ _ o a with ⟨_,_,n⟩|⟨_,_,_,n,u,_,v⟩
  ·rw[<-n];exact c
  ·cases q:(al[e+d]'(by rw[f.len];omega)).op.loud with
   |false=>rw[<-(u q).1];exact c
   |true=>
    cases h:(al[e+d]'(by rw[f.len];omega)).sync with
    |false=>rw[<-cy (n h) g];exact c
    |true=>
     obtain⟨m,i,s⟩:=r (e+d) (by omega) (by omega) ⟨_,a,q⟩ ⟨_,a,h⟩;rw[a]at i;injection i with i;subst i
     exact v s b k g c
theorem Static.sync (f:Static l al){i j:Nat}{a b:AOper}(h:i<j)(c:al[i]?=some a)(d:al[j]?=some b)(e:((a.sync&&b.op.loud) || (b.sync&&a.op.loud))=true):gL (eW l []) i j=true:=by
 have:=f.pair i j a b h c d;unfold um at this;rw[e]at this;simp at this;exact this.2
theorem operands (m:Run T n0 ops l al Es Hs vs)(d:Static l al){D:Nat->Prop}(B:Closed l D){tmps:Array Value}{w:World}{M:Nat->Prop}{μ:bp}(H:EInv T al l.length Es Hs vs D tmps w M μ)
 {i:Nat} {o:Oper} {v:AOper} (C:l[i]?=some o) (A:al[i]?=some v) (z:¬D i) (c:∀e ∈ o.after.toList,Region.binds .any e=true->D e.on) :
 ∀t ∈ v.reads,R T.gid w M (bQ (Hs i).length μ) (tmps.getD t Go.undef) (Es i t):=by
 intro t E;have I:i<l.length:=(Vi.1 C).1;have late:∀j,j<l.length->D j->cP al j=some t->j<i:=by
  intro j u n b;rcases XX j i with h|h|h
  ·exact h
  ·subst h;exact absurd n z
  ·exfalso;have a:=k9 (show j<al.length by rw[m.len];omega);unfold cP at b;rw[a]at b;simp only[V3]at b;have:=d.clash h A a (by unfold uM;rw[b];simp[E]);exact z (B.before d.down j n u i this)
 have early:∀j,j<i->cP al j=some t->D j:=by
  intro j u b;have a:=k9 (show j<al.length by rw[m.len];omega);unfold cP at b;rw[a]at b;simp only[V3]at b;have:=d.clash u a A (by unfold uM;rw[b];simp[E]);exact CK B d.down C c j this
 rcases H t with ⟨j,q,r,s,F,G⟩|⟨q,r⟩
 ·have p:=late j q r s;rcases m.val t i (by omega)with ⟨g,k,f,x,y⟩|⟨k,f⟩
  ·have J:j<=g:=x j p s;have K:g<=j:=F g (by omega) (early g k f) f;have:j=g:=by omega
   subst this;rw[y];exact G.mono (Keep.refl w M) (Shape.refl w) (xf (m.mono (by omega) (by omega)))
  ·exact absurd s (k j p)
 ·rcases m.val t i (by omega)with ⟨g,k,f,x,y⟩|⟨k,f⟩
  ·exact absurd f (q g (by omega) (early g k f))
  ·rw[f];exact r.mono (Keep.refl w M) (Shape.refl w) (xf (m.mono (by omega) (by omega)))
theorem EInv.put (J:Run T n0 ops l al Es Hs vs)(r:Static l al){D:Nat->Prop}(H:Closed l D){tmps:Array Value}{w:World}{M:Nat->Prop}{μ:bp}(G:EInv T al l.length Es Hs vs D tmps w M μ)
 {i:Nat} {g:AOper} (v:i<l.length) (A:al[i]?=some g) (F:¬D i) {w':World} {M':Nat->Prop} {μ':bp} (B:Keep w M w' M') (sh:Shape w w') (C:∀b x,μ b=some x->μ' b=some x)
 {v':Value} (hv:R T.gid w' M' (bQ (Hs (i+1)).length μ') v' (vs i)) (y:∀d,g.dst=some d->d<tmps.size) (z:List Deferred) :
 EInv T al l.length Es Hs vs (fun j=>D j\/j=i) (Act.put { tmps:=tmps,defers:=z } g.dst v').tmps w' M' μ':=by
 have c:cP al i=g.dst:=by unfold cP;rw[A];rfl
 intro t;by_cases m:g.dst=some t
 ·left;refine⟨i,v,.inr rfl,by rw[c];exact m,fun s o f n=>?_,?_⟩
  ·rcases f with f|f
   ·rcases Vm i s with p|p
    ·exfalso;have q:=k9 (show s<al.length by rw[J.len];omega);unfold cP at n;rw[q]at n;simp only[V3]at n;have:=r.clash p A q (by unfold uM;rw[m,n];simp);exact F (H.before r.down s f o i this)
    ·exact p
   ·omega
  ·simp only[Act.put,m];rw[VS,WJ,Vh rfl,Vh (y t m)];exact hv
 ·have k:(Act.put { tmps:=tmps,defers:=z } g.dst v').tmps.getD t Go.undef=tmps.getD t Go.undef:=by
   cases I:g.dst with
   |none=>rfl
   |some d=>
    have:d≠t:=fun e=>m (by rw[I,e])
    simp only[Act.put];rw[VS,WJ,Vk this,<-VS]
  rw[k];rcases G t with ⟨j,o,f,n,p,E⟩|⟨o,f⟩
  ·refine .inl ⟨j,o,.inl f,n,fun s u a h=>?_,E.mono B sh (Ap C)⟩;rcases a with a|a
   ·exact p s u a h
   ·subst a;rw[c]at h;exact absurd h m
  ·refine .inr ⟨fun j u a h=>?_,f.mono B sh (Ap C)⟩;rcases a with a|a
   ·exact o j u a h
   ·subst a;rw[c]at h;exact absurd h m
end
end Go.Abs
namespace Go.Abs
variable {T : Tab}
theorem Nj {n:Nat}{c:V}(h:V.lowB n c=true):Low n c:=by
 cases c<;>simp only[V.lowB,VT]at h
 case ref b z off len=>exact .ref b z off len h
 case ptr b i off=>exact .ptr b i off h
 all_goals exact .cell h
theorem R.cut {gid:Gid}{w:World}{M:Nat->Prop}{μ:bp}{n:Nat}{v:Value}{a:V}(h:R gid w M μ v a)(o:a.isTup=false)(k:∀c ∈ a.cells,Low n c):R gid w M (bQ n μ) v a:=by
 have d:∀b x,b<n->μ b=some x->bQ n μ b=some x:=fun b x m g=>by unfold bQ;rw[Vh m];exact g
 cases h with
 |c e=>exact .c (e.low (Keep.refl w M) (Shape.refl w) d (k a (by rw[V.cells_cell e.isCell];simp)))
 |agg arr cs f e=>exact .agg arr cs f fun i x c g j=>(e i x c g j).low (Keep.refl w M) (Shape.refl w) d (k c (VX j))
 |tup=>cases o
section
variable {n0 : Nat} {ops : Array Oper} {l : List Oper} {al : List AOper} {Es : Nat → aA} {Hs : Nat → ab} {vs : Nat → V} {w0 : World} {M0 : Nat → Prop} {μ0 : bp}
theorem HInv.quiet {D:Nat->Prop}{w:World}{M:Nat->Prop}{μ:bp}{s e:Nat}(h:HInv T n0 al l.length Hs w0 M0 μ0 D w M μ s e){i:Nat}(g:¬jk al i){w':World}{M':Nat->Prop}(st:Step T.gid n0 w M μ (Hs e) w' M' μ (Hs e)) :
 HInv T n0 al l.length Hs w0 M0 μ0 (fun j=>D j\/j=i) w' M' μ s e:=
 ⟨h.se,h.en,fun j c a=>.inl (h.lo j c a),fun j c a d=>d.elim (h.hi j c a) (fun e=>g (e ▸ a)),h.seg,h.last,h.step.trans st,
  fun b x k=>(h.dom b x k).imp id fun⟨j,c,a,d,f⟩=>⟨j,c,a,.inl d,f⟩,h.low⟩
theorem HInv.skipSeg {D:Nat->Prop}{w:World}{M:Nat->Prop}{μ:bp}{s e:Nat}(h:HInv T n0 al l.length Hs w0 M0 μ0 D w M μ s e){i:Nat}(c:i<e):HInv T n0 al l.length Hs w0 M0 μ0 (fun j=>D j\/j=i) w M μ s e:=
 ⟨h.se,h.en,fun j c a=>.inl (h.lo j c a),fun j a d f=>f.elim (h.hi j a d) (fun e=>by omega),h.seg,h.last,h.step,
  fun b x g=>(h.dom b x g).imp id fun⟨j,c,a,d,f⟩=>⟨j,c,a,.inl d,f⟩,h.low⟩
theorem Qn (r:Run T n0 ops l al Es Hs vs)(m:Static l al)(hn0:n0<=(Hs 0).length){D:Nat->Prop}(hc:Closed l D){a:Act}{w:World}{M:Nat->Prop}{μ:bp}{s e:Nat}
 (f:HInv T n0 al l.length Hs w0 M0 μ0 D w M μ s e) (hE:EInv T al l.length Es Hs vs D a.tmps w M μ) {i:Nat} {o:Oper} {H:AOper} (hopi:ops[i]?=some o) (ho:l[i]?=some o) (I:al[i]?=some H) (hD:¬D i)
 (u:∀e ∈ o.after.toList,Region.binds .any e=true->D e.on) (hsz:∀d,H.dst=some d->d<a.tmps.size) (K:Act->World->Prop) (Q:Exit->Act->World->Prop)
 (hK:∀a' A E p s' e',HInv T n0 al l.length Hs w0 M0 μ0 (fun j=>D j\/j=i) A E p s' e'->EInv T al l.length Es Hs vs (fun j=>D j\/j=i) a'.tmps A E p->a'.tmps.size=a.tmps.size->a'.defers=a.defers->K a' A) :
 wpOp T.P ops Q i K a w:=by
 have Z:i<l.length:=(Vi.1 ho).1;have hlink:=r.link i o H ho I;have hopd:=operands r m hc hE ho I hD u;have hw:∀{b},gd H (Es i)=some b->Region.wanted o (yielded ops a.tmps)=b:=fun hg=>
  Vc (w:=w) (M:=M) (μ:=bQ (Hs i).length μ) hlink (fun t ⟨want,hg'⟩=>hopd t (by unfold AOper.reads;rw[hg'];simp)) hg
 have G:∀{v':Value},(a.put o.dst v').tmps=(Act.put { tmps:=a.tmps,defers:=a.defers } H.dst v').tmps:=by rw[hlink.dst];intros;rfl
 have place:jk al i->(s<=i/\i<e)\/(i=e/\e<l.length):=by
  intro g;rcases Vm i s with C|C
  ·exact absurd (f.lo i C g) hD
  ·rcases XX i e with F|F|F
   ·exact .inl ⟨C,F⟩
   ·exact .inr ⟨F,by omega⟩
   ·exfalso;rcases f.last with h3|⟨h3,h4,h5⟩
    ·omega
    ·obtain⟨ae,hae,hse⟩:=h5;obtain⟨ai,hai,hli⟩:=g;rw[I]at hai;injection hai with hai;subst hai
     have:=m.sync F hae I (by rw[hse,hli];rfl);exact f.hi e (Vo _) h4 (CK hc m.down ho u e this)
 have next:∀{A:World} {E:Nat->Prop} {p:bp},i=e->e<l.length->Step T.gid n0 w0 M0 μ0 (Hs 0) A E p (Hs (i+1))->∃e',HInv T n0 al l.length Hs w0 M0 μ0 (fun j=>D j\/j=i) A E p (i+1) e':=by
  intro A E p hie hel st;subst hie;rcases f.last with h3|⟨h3,h4,h5⟩
  ·omega
  ·obtain⟨ae,hae,hse⟩:=h5;refine HInv.begin r (by omega) (fun j hj hl=>?_) (fun j hj hl hD'=>?_) st
   ·rcases Vm j i with h6|h6
    ·obtain⟨aj,P,hlj⟩:=hl;have:=m.sync h6 P hae (by rw[hse,hlj];simp);exact .inl (CK hc m.down ho u j this)
    ·exact .inr (by omega)
   ·rcases hD' with hD'|hD'
    ·exact f.hi j (by omega) hl hD'
    ·omega
 unfold wpOp;rw[hopi];simp only[];rcases r.at_ i o H ho I with ⟨hg,hv,U⟩|⟨hg,sem,hlen,hpre,hquiet,_⟩
 ·rw[hw hg];simp only[Vv,V8];have hEi:EInv T al l.length Es Hs vs (fun j=>D j\/j=i) (a.put o.dst Go.undef).tmps w M μ:=by
   rw[G];exact EInv.put r m hc hE Z I hD (Keep.refl w M) (Shape.refl w) (fun _ _ h=>h) (by rw[hv];exact R.undef) hsz a.defers
  by_cases g:jk al i
  ·rcases place g with ⟨_,F⟩|⟨C,F⟩
   ·exact hK _ w M μ s e (f.skipSeg F) hEi (by rw[lC]) (by rw[nH])
   ·obtain⟨e',hH'⟩:=next C F (by rw[U,C];exact f.step);exact hK _ w M μ (i+1) e' hH' hEi (by rw[lC]) (by rw[nH])
  ·exact hK _ w M μ s e (f.quiet g (.refl f.step.sim)) hEi (by rw[lC]) (by rw[nH])
 ·rw[hw hg];simp only[Wm];left;have n:∀t ∈ H.op.reads,R T.gid w M (bQ (Hs i).length μ) (a.tmps.getD t Go.undef) (Es i t):=fun t ht=>hopd t (by unfold AOper.reads;exact XI _ ht)
  by_cases g:jk al i
  ·rcases place g with ⟨C,F⟩|⟨C,F⟩
   · -- in the midst of a segment
     have hnsy:H.sync=false:=by
      cases hs':H.sync with
      |false=>rfl
      |true=>exact absurd ⟨H,I,hs'⟩ (f.seg i C F g)
     have hp0:Hs i <+: Hs e:=r.pre C (by omega) f.en f.seg;have hp1:Hs (i+1) <+: Hs e:=r.pre (s:=s) (by omega) (by omega) f.en f.seg;have hsr:=f.step.sim.restrict hp0 (f.low i C (by omega));refine sem a w M (bQ (Hs i).length μ) K Q (Vp hn0 (r.mono (Xa _) (by omega))) hsr n fun v' A E μi B N=>?_
     have hgap:∀b,(Hs i).length<=b->b<(Hs (i+1)).length->μ b=none:=by
      intro b hb1 hb2;cases hq:μ b with
      |none=>rfl
      |some x=>
       exfalso;rcases f.dom b x hq with h3|⟨j,h3,h4,h5,h6,h7⟩
       ·have:=r.mono C (show i<=l.length by omega);omega
       ·rcases XX j i with h8|h8|h8
        ·have:=r.mono (show j+1<=i by omega) (by omega);omega
        ·subst h8;exact hD h5
        ·have:=r.mono (show i+1<=j by omega) (by have:=f.en;omega);omega
     have A':=Step.merge f.step (r.mono (Xa _) (by omega)) hn0 (hpre hnsy) hp1 hgap hsr B;have hold:∀b x,μ b=some x->(if b<(Hs (i+1)).length then μi b else μ b)=some x:=by
      intro b x W;split
      ·rename_i g1;by_cases S:b<(Hs i).length
       ·rw[B.ext b S];unfold bQ;rw[Vh S];exact W
       ·rw[hgap b (by omega) g1]at W;cases W
      ·exact W
     refine hK _ A E _ s e ⟨f.se,f.en,fun j g1 S=>.inl (f.lo j g1 S),fun j g1 S g3=>g3.elim (f.hi j g1 S) (fun e=>by omega),f.seg,f.last,A',?_,?_⟩ ?_ (by rw[lC]) (by rw[nH])
     ·intro b x y;split at y
      ·by_cases S:b<(Hs i).length
       ·rw[B.ext b S]at y;exact(f.dom b x (i3 _ _ y)).imp id fun⟨j,g3,g4,g5,g6⟩=>⟨j,g3,g4,.inl g5,g6⟩
       ·exact .inr ⟨i,C,F,.inr rfl,by omega,by assumption⟩
      ·exact(f.dom b x y).imp id fun⟨j,g3,g4,g5,g6⟩=>⟨j,g3,g4,.inl g5,g6⟩
     ·intro k hk1 hk2 b kk W hm L el hel c Y;by_cases g1:b<(Hs i).length
      ·have hm':μ b≠none:=by
        have g3:b<(Hs (i+1)).length:=by omega
        simp only[Vh g3]at hm;rw[B.ext b g1]at hm;unfold bQ at hm;rw[Vh g1]at hm;exact hm
       exact f.low k hk1 hk2 b kk W hm' L el hel c Y
      ·by_cases S:b<(Hs (i+1)).length
       ·simp only[Vh S]at hm;obtain⟨⟨cc,oo,z⟩,y⟩:=Option.ne_none_iff_exists'.1 hm;rw[cy hp1 S]at L;obtain⟨arr,et,l1,l2,l3⟩:=(B.sim.blk b cc oo z kk y L).lay;obtain⟨q,hq⟩:=Wa hel;obtain⟨j,hj⟩:=Wa Y;obtain⟨v,_,hrc⟩:=(l3 q el hq).2.2 j c hj;have hki:i+1<=k:=by
         rcases Vm i k with h|h
         ·exact h
         ·have:=r.mono h (show i<=l.length by omega);omega
        exact(hrc.toLow (fun b x h=>B.sim.dom b x h)).mono (r.mono hki (by have:=f.en;omega))
       ·simp only[Vk S]at hm;exact f.low k hk1 hk2 b kk W hm L el hel c Y
     ·rw[G];refine EInv.put r m hc hE Z I hD (B.keep hsr) B.shape hold (N.mono (Keep.refl A E) (Shape.refl A) fun b x y=>?_) hsz a.defers;have g1:=B.sim.dom b x y;unfold bQ;simp only[Vh g1];exact y
   · -- at the segment's end
     subst C;have J:=f.step.sim;refine sem a w M μ K Q (Vp hn0 (r.mono (Xa _) (by omega))) J (fun t ht=>(n t ht).mono (Keep.refl w M) (Shape.refl w) i3) fun v' A E p B N=>?_
     obtain⟨e',hH'⟩:=next rfl F (f.step.trans B);refine hK _ A E p (i+1) e' hH' ?_ (by rw[lC]) (by rw[nH]);rw[G];refine EInv.put r m hc hE Z I hD (B.keep J) B.shape (B.mono_map J) (N.mono (Keep.refl A E) (Shape.refl A) fun b x y=>?_) hsz a.defers;unfold bQ;rw[Vh (B.sim.dom b x y)];exact y
  · -- no heap is asked for
    have hl:H.op.loud=false:=by
     cases hq:H.op.loud with
     |false=>rfl
     |true=>exact absurd ⟨H,I,hq⟩ g
    obtain⟨U,hsem|hlate⟩:=hquiet hl
    rotate_left
    ·obtain⟨ag,z,t,b,k,off,hop,hEt,W,⟨kk,L⟩,htup,hlow,hsem⟩:=hlate;have hlen':al.length=l.length:=r.len;have hdt:H.dst≠some t:=by
      intro hd;have:=m.self i o H ho I;simp[rV,hop,hd]at this
     have hstill:(Hs e)[b]?=(Hs i)[b]?:=by
      rcases Vm e i with hei|hie
      ·have y:=n t (by rw[hop];simp[AOp.reads]);rw[hEt]at y;obtain⟨c,base,zz,hμ,_⟩:=y.inv_ptr;have hbe:=f.step.sim.dom b _ (i3 _ _ hμ);have back:=r.back (b:=b) (k:=kk) (i-e) e (by omega) hbe (by rw[show e+(i-e)=i by omega];exact L) fun j C F hl hs=>by
        obtain⟨aj,P,hlj⟩:=hl;obtain⟨aj',O,hsj⟩:=hs;rw[P]at O;injection O with O;subst O
        rcases m.early (show j<i by omega) P I hop hsj hlj with h|h
        ·exact absurd (CK hc m.down ho u j h) (f.hi j C ⟨_,P,hlj⟩)
        ·exact⟨aj,P,h⟩
       rw[back,L]
      ·exact(r.still m I hop hEt W U hdt e hie f.en fun j C F h3 h4=>by
        cases hq:gL (eW l []) i j with
        |false=>rfl
        |true=>
         exfalso;rcases Vm j s with h5|h5
         ·exact hD (hc.before m.down j (f.lo j h5 h3) (by have:=f.en;omega) i hq)
         ·exact f.seg j h5 F h3 h4).1
     refine hsem (Hs e) hstill a w M μ K Q (Vp hn0 (r.mono (Xa _) f.en)) f.step.sim (fun t' ht'=>(n t' ht').mono (Keep.refl w M) (Shape.refl w) i3) fun v' A E p B N=>?_
     have hμ:p=μ:=by
      funext b';rcases Vm b' (Hs e).length with C|C
      ·exact B.ext b' C
      ·have e1:p b'=none:=by
        cases hq:p b' with
        |none=>rfl
        |some x=>have:=B.sim.dom b' x hq;omega
       have e2:μ b'=none:=by
        cases hq:μ b' with
        |none=>rfl
        |some x=>have:=f.step.sim.dom b' x hq;omega
       rw[e1,e2]
     subst hμ;refine hK _ A E p s e (f.quiet g B) ?_ (by rw[lC]) (by rw[nH]);rw[G];refine EInv.put r m hc hE Z I hD (B.keep f.step.sim) B.shape (fun _ _ h=>h) ?_ hsz a.defers;rw[U];exact N.cut htup fun c Y=>Nj (hlow c Y)
    have hdead:Sim T.gid w M (bQ (Hs i).length μ) (List.replicate (Hs e).length none):=Sim.dead f.step.sim.tab fun b x y=>f.step.sim.dom b x (i3 _ _ y)
    refine hsem (List.replicate (Hs e).length none) a w M _ K Q (by simp only[aaf];exact Vp hn0 (r.mono (Xa _) f.en)) hdead n fun v' A E p B N=>?_
    have st:=Step.of_dead f.step.sim B;refine hK _ A E μ s e (f.quiet g st) ?_ (by rw[lC]) (by rw[nH]);rw[G];refine EInv.put r m hc hE Z I hD (st.keep f.step.sim) st.shape (fun _ _ h=>h) (N.mono (Keep.refl A E) (Shape.refl A) fun b x y=>?_) hsz a.defers;have W:b<(Hs e).length:=by simpa using B.sim.dom b x y
    rw[B.ext b (by simpa using W)]at y;rw[U];exact y
def left (n:Nat)(listed:Array Bool):Nat:=((List.range n).filter fun i=>!listed.getD i false).length
theorem zf {n:Nat}{listed:Array Bool}{i:Nat}(hi:i<n)(a:listed.size=n)(h:listed.getD i false=false):left n (listed.setIfInBounds i true)<left n listed:=by
 unfold left;have sub:((List.range n).filter fun j=>!(listed.setIfInBounds i true).getD j false)=((List.range n).filter fun j=>!listed.getD j false).filter fun j=>decide (j≠i):=by
  rw[List.filter_filter];apply List.filter_congr;intro j b;simp only[VS,WJ];by_cases e:i=j
  ·subst e;simp[a,hi]
  ·have:j≠i:=fun h=>e h.symm
   simp[e,this]
 rw[sub];apply List.length_filter_lt_length_iff_exists.2;exact⟨i,abg.2 ⟨List.mem_range.2 hi,by simp only[h];rfl⟩,by simp⟩
theorem O0 (hr:Run T n0 ops ops.toList al Es Hs vs)(Y:Static ops.toList al)(hn0:n0<=(Hs 0).length)(Q:Exit->Act->World->Prop){N:Nat}(hds:pk N al=true)
 (hQ:∀F Z M' y,Step T.gid n0 w0 M0 μ0 (Hs 0) Z M' y (Hs ops.toList.length)->ERel T.gid Z M' y F.tmps (Es ops.toList.length)->F.defers=[]->N<=F.tmps.size->Q .normal F Z) :
 ∀(f:Nat) (listed:Array Bool) (a:Act) (w:World) (M:Nat->Prop) (μ:bp) (s e:Nat),listed.size=ops.size->left ops.size listed<=f->Closed ops.toList (fun i=>listed.getD i false=true) ->
  HInv T n0 al ops.toList.length Hs w0 M0 μ0 (fun i=>listed.getD i false=true) w M μ s e->EInv T al ops.toList.length Es Hs vs (fun i=>listed.getD i false=true) a.tmps w M μ->N<=a.tmps.size->a.defers=[] ->
  wpAny T.P .any ops Q f listed a w:=by
 have p:ops.toList.length=ops.size:=by simp
 have k:∀{listed:Array Bool} {i:Nat},i ∈ Region.ready .any ops listed->listed.size=ops.size->∃o,i<ops.size/\ops[i]?=some o/\listed.getD i false=false/\∀e ∈ o.after.toList,Region.binds .any e=true->listed.getD e.on false=true:=by
  intro listed i hi q;unfold Region.ready at hi;rw[abg]at hi;obtain⟨c,g⟩:=hi;have D:=List.mem_range.1 c;simp only[VA,abH]at g;obtain⟨g,m⟩:=g;have E:ops[i]?=some ops[i]:=by simp[D]
  rw[E]at m;simp only[WX,Xd]at m;refine⟨_,D,E,?_,fun e he hb=>?_⟩
  ·rw[VS]at g ⊢;have:listed[i]?=some (listed[i]'(by omega)):=by simp[q,D]
   rw[this]at g ⊢;exact g
  ·rw[aab]at m;have:=m e (by simpa using he);simp only[hb,abx,aaN]at this;exact this
 have n:∀{listed:Array Bool} {a:Act} {w:World} {M:Nat->Prop} {μ:bp} {s e:Nat},listed.size=ops.size->Closed ops.toList (fun i=>listed.getD i false=true)->Region.ready .any ops listed=[] ->
  HInv T n0 al ops.toList.length Hs w0 M0 μ0 (fun i=>listed.getD i false=true) w M μ s e->EInv T al ops.toList.length Es Hs vs (fun i=>listed.getD i false=true) a.tmps w M μ->N<=a.tmps.size->a.defers=[]->Q .normal a w:=by
  intro listed a w M μ s e q I b B H K J;have all:∀i,i<ops.size->listed.getD i false=true:=by
   intro i;induction i using Nat.strongRecOn with
   |_ i ih=>
    intro hi;cases U:listed.getD i false with
    |true=>rfl
    |false=>
     exfalso;have E:ops.toList[i]?=some ops[i]:=by simp[hi]
     have:i ∈ Region.ready .any ops listed:=by
      unfold Region.ready;rw[abg];refine⟨List.mem_range.2 hi,?_⟩;have c:listed.getD i true=false:=by
       rw[VS]at U ⊢;have:listed[i]?=some (listed[i]'(by omega)):=by simp[q,hi]
       rw[this]at U ⊢;exact U
      have g:ops[i]?=some ops[i]:=by simp[hi]
      rw[c,g];simp only[aac,WX,Xd,Bool.true_and];rw[aab];intro z x;cases hb:Region.binds .any z with
      |false=>simp
      |true=>
       have P:=Y.down i _ E;unfold qQ at P;have m:=VU.1 P z (by simpa using x);simp[hb]at m;simp[ih z.on m (by omega)]
     rw[b]at this;cases this
  have hen:e=ops.toList.length:=by
   rcases B.last with c|⟨c,g,_⟩
   ·exact c
   ·exact absurd (all e (by rw[<-p];exact c)) (B.hi e (Vo _) g)
  subst hen;refine hQ a w M μ B.step (fun t=>?_) J K;rcases H t with ⟨j,c,g,m,h4,h5⟩|⟨c,g⟩
  ·rcases hr.val t _ (Vo _)with ⟨C,A,G,g3,g4⟩|⟨A,G⟩
   ·have e1:j<=C:=g3 j c m;have e2:C<=j:=h4 C A (all C (by rw[<-p];exact A)) G;have:j=C:=by omega
    subst this;rw[g4];exact h5.mono (Keep.refl w M) (Shape.refl w) i3
   ·exact absurd m (A j c)
  ·rcases hr.val t _ (Vo _)with ⟨C,A,G,g3,g4⟩|⟨A,G⟩
   ·exact absurd G (c C A (all C (by rw[<-p];exact A)))
   ·rw[G];exact g.mono (Keep.refl w M) (Shape.refl w) i3
 intro f;induction f with
 |zero=>
  intro listed a w M μ s e q hf I B H K J;have b:Region.ready .any ops listed=[]:=by
   cases U:Region.ready .any ops listed with
   |nil=>rfl
   |cons i r=>
    exfalso;obtain⟨o,c,g,m,_⟩:=k (listed:=listed) (i:=i) (by rw[U];simp) q;have:=zf c q m;omega
  exact⟨b,n q I b B H K J⟩
 |succ f ih=>
  intro listed a w M μ s e q hf I B H K J;refine⟨fun b=>n q I b B H K J,fun i hi=>?_⟩;obtain⟨o,c,g,m,h4⟩:=k hi q;have E:ops.toList[i]?=some o:=by simpa using g
  have L:i<al.length:=by rw[hr.len,p];exact c
  have ha:=k9 L;have W:∀j,(listed.setIfInBounds i true).getD j false=true↔(listed.getD j false=true\/j=i):=by
   intro j;simp only[VS,WJ];by_cases e:i=j
   ·subst e;simp[q,c]
   ·have:j≠i:=fun h=>e h.symm
    simp[e,this]
  have u:(fun j=>(listed.setIfInBounds i true).getD j false=true)=(fun j=>listed.getD j false=true\/j=i):=funext fun j=>propext (W j)
  refine Qn hr Y hn0 I B H g E ha (by simp[m]) h4 (fun d hd'=>?_) _ Q fun F Z M' y s' z hH' hE' hsz hdf=>?_
  ·have:=VU.1 hds _ (Vy L);rw[hd']at this;simp at this;omega
  ·refine ih _ F Z M' y s' z (by simp[q]) (by have:=zf c q m;omega) ?_ (by rw[u];exact hH') (by rw[u];exact hE') (by omega) (by rw[hdf];exact J);rw[u];intro j oj S v z x O;rcases S with S|S
   ·exact .inl (I j oj S v z x O)
   ·subst S;rw[E]at v;injection v with v
    subst v;exact .inl (h4 z x O)
end
end Go.Abs
namespace Go.Abs
variable {gid : Gid} {w w0 : World} {M M0 : Nat → Prop} {μ μ0 : bp} {H H0 : ab} {n0 : Nat}
theorem q2y {c f:V}{H1 acc:ab}(h:bm H c=some (f,H1)):bm (H++acc) c=some (f,H1++acc)/\H1.length=H.length:=by
 cases c<;>simp only[bm]at h ⊢<;>try(injection h with h;injection h with d e;subst d;subst e;exact⟨rfl,rfl⟩)
 case ref b z off len=>
  split at h
  ·rename_i k g;have a:b<H.length:=(Vi.1 g).1;split at h
   ·rename_i i;injection h with h;injection h with d e
    subst d;subst e;rw[Vr a,g];simp only[Vh i];refine⟨?_,by split<;>simp⟩;split
    ·rw[abo _ _ a]
    ·rfl
   ·cases h
  ·cases h
 all_goals cases h
def RO (gid:Gid)(w:World)(M:Nat->Prop)(n0 L m:Nat)(μ:bp)(v:Value)(c:V):Prop:=RC gid w M (jl n0 L m μ) v c
theorem q5f {L m d:Nat}{μ μ':bp}(e:m<=d)(h:∀b x,μ b=some x->μ' b=some x):∀b x,jl n0 L m μ b=some x->jl n0 L d μ' b=some x:=by
 intro b x a;unfold jl at a ⊢;split at a
 ·rename_i c;rw[Vh c];exact h b x a
 ·rename_i c;rw[Vk c];split at a
  ·rw[Vh (by omega)];exact h _ x a
  ·cases a
theorem Z7 {m:Nat}{acc:ab}(hmn:m<=H.length)(G:Sim gid w M μ (H++acc)){c A:V}{H1 d:ab}(h:fL n0 H acc c=some (A,H1,d)){v:Value}(N:RC gid w M μ v c)(n:∀k,some k ∈ acc->k.arr=true) :
 ∃y s,Step gid m w M μ (H++acc) w y s (H1++d)/\RO gid w y n0 H.length d.length s v A/\H1.length=H.length/\acc.length<=d.length/\(∀k,some k ∈ d->k.arr=true):=by
 have E:(bm H c).bind (fun(A,H1)=>if A.cellPure=true then some (A,H1,acc)else none)=some (A,H1,d) ->
  ∃y s,Step gid m w M μ (H++acc) w y s (H1++d)/\RO gid w y n0 H.length d.length s v A/\H1.length=H.length/\acc.length<=d.length/\(∀k,some k ∈ d->k.arr=true):=by
  intro h;obtain⟨⟨c1,Ha⟩,h1,F⟩:=ar h;simp only[]at F;split at F
  ·rename_i hp;injection F with F;injection F with B l;injection l with l C
   subst B;subst l;subst C;obtain⟨S,T⟩:=q2y (acc:=acc) h1;obtain⟨y,st,r,_⟩:=DS (n0:=m) G S N;exact⟨y,μ,st,.p (r.pure hp),T,Vo _,n⟩
  ·cases F
 cases c
 case nil=>
  simp only[fL]at h;injection h with h;injection h with B l;injection l with l C
  subst B;subst l;subst C;exact⟨M,μ,.refl G,.p (N.pure rfl),rfl,Vo _,n⟩
 case ref b z off len=>
  simp only[fL]at h;split at h
  ·rename_i k hk;split at h
   ·rename_i W;obtain⟨c1,c2,c3,c4,c5⟩:=W;injection h with h;injection h with B l;injection l with l C
    subst B;subst l;subst C;subst c4;have K:b<H.length:=(Vi.1 hk).1;have f:(H++acc)[b]?=some (some k):=by rw[Vr K];exact hk
    obtain⟨a,cap,Q,g,arr,e,rfl,Y,hsp,o,t,q,I,D,hcs⟩:=ua G f N;have u:=G.blk b Q g k.z k t f;obtain⟨arr1,e1,O,l2,l3⟩:=u.lay;rw[I]at O;injection O with O
    injection O with w1 w2 w3
    subst w1;subst w2;have J:((k.el.drop off).take len).length=len:=by simp;omega
    have L:(off+len)*k.z<=k.el.length*k.z:=Vn _ c5;rw[VI]at L;have st:=Step.regrow (n0:=m) (k':={ k with el:=(k.el.drop off).take len }) (base':=g+off*k.z) (by simp;omega) G t f c3 rfl c3 arr arr e I rfl (by simp only[J];omega)
     (fun i el hi=>by
      rw[WQ]at hi;split at hi
      ·rw[Ws]at hi;obtain⟨S,T,g3⟩:=l3 _ el hi;refine⟨S,T,fun j cv hj=>?_⟩;obtain⟨x,hx,hrx⟩:=g3 j cv hj;refine⟨x,?_,hrx⟩;rw[<-hx]
       congr 1
       rw[VI];omega
      ·cases hi) (fun U el Z=>u.pur U el (Xk (W4 Z)))
    rw[setRow_self w Q arr e (0,0) I,abo _ _ K,XG]at st;refine⟨_,_,st,?_,by simp,by simp,fun k' f=>?_⟩
    ·refine .ref _ _ _ _ Q (g+off*k.z) cap a arr e (0,0) ?_ Y hsp o (q.imp id fun h=>by omega) I D;unfold jl;rw[Vk (by omega),Vh (by simp)];simp only[Xc];rw[Vh (by omega)]
    ·rw[V6]at f;rcases f with f|f
     ·exact n k' f
     ·simp at f;subst f;exact c2
   ·split at h
    ·rename_i hb;injection h with h;injection h with B l;injection l with l C
     subst B;subst l;subst C;refine⟨M,μ,.refl G,?_,rfl,Vo _,n⟩;cases N with
     |p h=>cases h
     |ref b z off len c g cap a arr e fr t W U o q I D=>exact .ref b z off len c g cap a arr e fr (by unfold jl;rw[Vh hb];exact t) W U o q I D
    ·cases h
  ·cases h
 all_goals exact E h
theorem q03 {m:Nat}:∀(cs:List V) {H acc:ab} {M:Nat->Prop} {μ:bp} (_:m<=H.length) (_:n0<=H.length) (_:Sim gid w M μ (H++acc)) {b:List V} {H1 a:ab} (_:fz n0 H acc cs=some (b,H1,a)) {vs:List Value}
 (_:vs.length=cs.length) (_:∀(i:Nat) (v:Value) (c:V),vs[i]?=some v->cs[i]?=some c->RC gid w M μ v c) (_:∀k,some k ∈ acc->k.arr=true),
 ∃A n,Step gid m w M μ (H++acc) w A n (H1++a)/\vs.length=b.length/\(∀(i:Nat) (v:Value) (c:V),vs[i]?=some v->b[i]?=some c->RO gid w A n0 H.length a.length n v c)/\H1.length=H.length/\acc.length<=a.length/\(∀k,some k ∈ a->k.arr=true)
 | [],H,acc,M,μ,_,_,p,b,H1,a,h,vs,o,t,d=>by
  simp only[fz]at h;injection h with h;injection h with r f;injection f with f e
  subst r;subst f;subst e;have:vs=[]:=VK (by simpa using o);subst this;exact⟨M,μ,.refl p,rfl,by simp,rfl,Vo _,d⟩
 |c :: cs,H,acc,M,μ,L,Z,p,b,H1,a,h,vs,o,t,d=>by
  simp only[fz]at h;obtain⟨⟨Y,T,B⟩,r,h⟩:=ar h;obtain⟨⟨D,U,C⟩,f,e⟩:=ar h;injection e with e;injection e with e s;injection s with s J
  subst e;subst s;subst J;cases vs with
  |nil=>simp at o
  |cons v vs=>
   obtain⟨W,S,l,Q,F,K,O⟩:=Z7 (m:=m) L p r (t 0 v c rfl rfl) d;obtain⟨I,z,q,N,G,u,E,P⟩:=q03 cs (m:=m) (by omega) (by omega) l.sim f (vs:=vs) (by simpa using o) (fun i x y g j=>l.rc p (t (i+1) x y (by simpa using g) (by simpa using j))) O;refine⟨I,z,l.trans q,by simp[N],fun i x y g j=>?_,u.trans F,Vp K E,P⟩;rw[F]at G;cases i with
   |zero=>
    simp at g j;subst g;subst j;exact RC.mono (q.keep l.sim) q.shape (q5f E (q.mono_map l.sim)) Q
   |succ i=>exact G i x y (by simpa using g) (by simpa using j)
theorem Z8 {m:Nat}{acc:ab}(j:m<=H.length)(G:n0<=H.length)(B:Sim gid w M μ (H++acc)){c o:V}{H1 b:ab}(h:fK n0 H acc c=some (o,H1,b)){v:Value}(f:R gid w M μ v c)(e:∀k,some k ∈ acc->k.arr=true) :
 ∃g d,Step gid m w M μ (H++acc) w g d (H1++b)/\R gid w g (jl n0 H.length b.length d) v o/\H1.length=H.length/\acc.length<=b.length/\(∀k,some k ∈ b->k.arr=true):=by
 cases f with
 |c f=>
  have C:fL n0 H acc c=some (o,H1,b):=by
   have:=f.isCell;cases c<;>first|exact h|cases this
  obtain⟨g,d,st,r,l,a,p⟩:=Z7 (m:=m) j B C f e;exact⟨g,d,st,.c r,l,a,p⟩
 |agg arr cs n f=>
  simp only[fK]at h;obtain⟨⟨q,K,A⟩,D,s⟩:=ar h;injection s with s;injection s with E t;injection t with t F
  subst E;subst t;subst F;obtain⟨g,d,st,l,r,I,a,p⟩:=q03 (m:=m) cs j G B D (vs:=arr.toList) (by simpa using n) (fun i x y u z=>f i x y (by simpa using u) z) e;exact⟨g,d,st,.agg arr q (by simpa using l) (fun i x y u z=>r i x y (by simpa using u) z),I,a,p⟩
 |tup arr J n f=>simp[fK,fL,bm]at h
theorem q02 {m:Nat}:∀(cs:List V) {H acc:ab} {M:Nat->Prop} {μ:bp} (_:m<=H.length) (_:n0<=H.length) (_:Sim gid w M μ (H++acc)) {d:List V} {H1 a:ab} (_:fy n0 H acc cs=some (d,H1,a)) {vs:List Value}
 (_:Rs gid w M μ vs cs) (_:∀k,some k ∈ acc->k.arr=true),
 ∃s j,Step gid m w M μ (H++acc) w s j (H1++a)/\Rs gid w s (jl n0 H.length a.length j) vs d/\H1.length=H.length/\acc.length<=a.length/\(∀k,some k ∈ a->k.arr=true)
 | [],H,acc,M,μ,_,_,l,d,H1,a,h,vs,g,b=>by
  simp only[fy]at h;injection h with h;injection h with o f;injection f with f e
  subst o;subst f;subst e;have:vs=[]:=VK (by simpa using g.1);subst this;exact⟨M,μ,.refl l,⟨rfl,by simp⟩,rfl,Vo _,b⟩
 |c :: cs,H,acc,M,μ,E,F,l,d,H1,a,h,vs,g,b=>by
  simp only[fy]at h;obtain⟨⟨P,L,t⟩,o,h⟩:=ar h;obtain⟨⟨x,N,u⟩,f,e⟩:=ar h;injection e with e;injection e with e p;injection p with p C
  subst e;subst p;subst C;cases vs with
  |nil=>have:=g.1;simp at this
  |cons v vs=>
   obtain⟨O,K,i,J,z,D,G⟩:=Z8 (m:=m) E F l o g.tail.1 b;obtain⟨B,r,n,A,q,y,I⟩:=q02 cs (m:=m) (by omega) (by omega) i.sim f (Rs.step i l g.tail.2) G;refine⟨B,r,i.trans n,?_,q.trans z,Vp D y,I⟩;rw[z]at A;exact Rs.cons (R.mono (n.keep i.sim) n.shape (q5f y (n.mono_map i.sim)) J) A
theorem O5 {own:Bool}{E:V}{D:ab}(J:H0.length=n0)(j:jg n0 μ0 H0)(st:Step gid n0 w0 M0 μ0 H0 w M μ H){x:Value}{v:V}(G:R gid w M μ x v)(h:fin own n0 H v=some (E,D)) :
 ∃d b,Step gid n0 w0 M0 μ0 H0 w d b D/\R gid w d b x E:=by
 have O:=st.len;unfold fin at h;cases own with
 |true=>
  simp only[Wm]at h;have drop:∀{d:Nat->Prop} {b:bp} {g c:ab},Step gid n0 w M μ (H++[]) w d b (g++c)->g.length=H.length->(∀k,some k ∈ c->k.arr=true) ->
   Step gid n0 w0 M0 μ0 H0 w d (jl n0 H.length c.length b) (g.take n0++c):=by
   intro d b g c n I L;rw[XB]at n;have s4:=st.trans n;have e:g++c=g.take n0++g.drop n0++c:=by simp
   rw[e]at s4;have:=Step.drop s4 (by simp;omega) J j L;rw[show n0+(g.drop n0).length=H.length by simp;omega]at this;exact this
  have o:∀{E:V} {D:ab},(fK n0 H [] v).bind (fun(K,g,c)=>some (K,g.take n0++c))=some (E,D)->∃d b,Step gid n0 w0 M0 μ0 H0 w d b D/\R gid w d b x E:=by
   intro E D h;obtain⟨⟨N,g,c⟩,s,f⟩:=ar h;injection f with f;injection f with t u
   subst t;subst u;obtain⟨d,b,n,r,l,a,p⟩:=Z8 (m:=n0) (acc:=[]) (by omega) (by omega) (by rw[XB];exact st.sim) s G (by simp);exact⟨d,_,drop n l p,r⟩
  split at h
  ·rename_i F;obtain⟨arr,rfl,A,z⟩:=G.inv_tup;obtain⟨⟨C,g,c⟩,s,f⟩:=ar h;injection f with f;injection f with t u
   subst t;subst u;obtain⟨d,b,n,r,l,a,p⟩:=q02 (m:=n0) (acc:=[]) F (by omega) (by omega) (by rw[XB];exact st.sim) s (vs:=arr.toList) ⟨by simpa using A,fun i x y B q=>z i x y (by simpa using B) q⟩ (by simp);exact⟨d,_,drop n l p,.tup arr C (by simpa using r.1) (fun i x y B q=>r.2 i x y (by simpa using B) q)⟩
  ·exact o h
 |false=>
  simp only[Vv,V8]at h;split at h
  ·rename_i F;obtain⟨arr,rfl,A,z⟩:=G.inv_tup;obtain⟨⟨C,g⟩,s,f⟩:=ar h;injection f with f;injection f with t u
   subst t;subst u;obtain⟨d,n,r,p,l⟩:=FI (n0:=n0) F st.sim s (vs:=arr.toList) ⟨by simpa using A,fun i x y B q=>z i x y (by simpa using B) q⟩;obtain⟨b,I⟩:=Step.take (st.trans n) J j;exact⟨d,b,I,.tup arr C (by simpa using r.1) (fun i x y B q=>(r.2 i x y (by simpa using B) q).pureAny (p y (VX q)) b)⟩
  ·obtain⟨⟨K,g⟩,s,f⟩:=ar h;injection f with f;injection f with t u
   subst t;subst u;obtain⟨d,n,r,p,l⟩:=E3 (n0:=n0) st.sim s G;obtain⟨b,I⟩:=Step.take (st.trans n) J j;exact⟨d,b,I,r.pureAny p b⟩
end Go.Abs
namespace Go.Abs
structure Seat (T:Tab)(S:AProg):Prop where
 mixed:T.P.follows .mixedOrders=true
 fns : ∀ fid g f, T.gid fid = some g → S.fn g = some f → ∃ fn C, T.P.funcs[fid]? = some fn ∧ fn.name ≠ "runtime.NumGoroutine" ∧ fn.body = some C ∧ cF T fn.ntmps C = some f.body ∧ gY T fn.results.toList = some f.results
 prims : ∀ fid g args v H, T.gid fid = some g → S.prim g args = some v → ∃ fn, T.P.funcs[fid]? = some fn ∧ fn.name ≠ "runtime.NumGoroutine" ∧ fn.body.isSome = true ∧
  ∀(w:World) (M:Nat->Prop) (μ:bp) (vs:List Value),Sim T.gid w M μ H->Rs T.gid w M μ vs args ->
   Calls T.P fid vs.toArray w fun e w'=>∃v' M' μ',e=.returned v'/\Step T.gid H.length w M μ H w' M' μ' H/\R T.gid w' M' μ' v' v
def AX.toExit : AX->Exit
 | .normal=>.normal
 | .exit id=>.exit id
 | .ret=>.ret
def wL (T:Tab)(g:Nat)(args:List V)(H:ab)(v:V)(H':ab):Prop:=
 H.length ≤ H'.length ∧ ∀ fid, T.gid fid = some g → ∃ fn, T.P.funcs[fid]? = some fn ∧ fn.name ≠ "runtime.NumGoroutine" ∧ fn.body.isSome = true ∧
  ∀(w:World) (M:Nat->Prop) (μ:bp) (vs:List Value),Sim T.gid w M μ H->Rs T.gid w M μ vs args ->
   Calls T.P fid vs.toArray w fun e w'=>∃v' M' μ',e=.returned v'/\Step T.gid H.length w M μ H w' M' μ' H'/\R T.gid w' M' μ' v' v
def jD (T:Tab)(n0 nt:Nat)(w:World)(M:Nat->Prop)(μ:bp)(H:ab)(x:AX)(E':aA)(H':ab)(Q:Exit->Act->World->Prop):Prop:=
 ∀a' w' M' μ',Step T.gid n0 w M μ H w' M' μ' H'->ERel T.gid w' M' μ' a'.tmps E'->a'.defers=[]->nt<=a'.tmps.size->Q x.toExit a' w'
def wN (T:Tab)(n0:Nat)(c:AC)(E:aA)(H:ab)(x:AX)(E':aA)(H':ab):Prop:=
 H.length<=H'.length /\
 (∀(nt:Nat) (C:Code) (a:Act) (w:World) (M:Nat->Prop) (μ:bp) (Q:Exit->Act->World->Prop),cF T nt C=some c->n0<=H.length->nt<=a.tmps.size->Sim T.gid w M μ H->ERel T.gid w M μ a.tmps E->a.defers=[] ->
  jD T n0 nt w M μ H x E' H' Q->C.wp T.P Q a w) /\
 (∀c',c=.loop c'->∃n,∀(nt:Nat) (C:Code) (a:Act) (w:World) (M:Nat->Prop) (μ:bp) (Q:Exit->Act->World->Prop),cF T nt C=some c'->n0<=H.length->nt<=a.tmps.size->Sim T.gid w M μ H->ERel T.gid w M μ a.tmps E->a.defers=[] ->
  jD T n0 nt w M μ H x E' H' Q->Code.rounds T.P C Q n a w)
def Sv (T:Tab)(n0:Nat)(d:Bool)(l:List AOper)(E:aA)(H:ab)(x:AX)(E':aA)(H':ab):Prop:=
 x=.normal/\H.length<=H'.length/\∀(ops:Array Oper) (os:List Oper),os.length=l.length->(∀(i:Nat) (o:Oper) (ao:AOper),os[i]?=some o->l[i]?=some ao->Link T ops o ao)->Tr T n0 d ops os l E H E' H'
def Su (T:Tab):Task->Res->Prop
 | .call g args H,.ret v H'=>wL T g args H v H'
 | .code n0 c E H,.cd x E' H'=>wN T n0 c E H x E' H'
 | .ops n0 d l E H,.cd x E' H'=>Sv T n0 d l E H x E' H'
 |_,_=>True
variable {T : Tab} {S : AProg}
theorem q3l {g:Nat}{ops:Array Oper}{a:Bool}{c:AC}(h:Bm T g ops a=some c) :
 ∃l,uk T ops ops.toList=some l/\pk g l=true/\((a=false/\c=.region false l) \/
  (a=true/\c=.region true (lA (eW ops.toList []) l) /\
   ((List.range ops.size).all fun i=>match ops[i]? with|some o=>qQ i o|none=>false)=true/\ul (eW ops.toList []) (lA (eW ops.toList []) l)=true)):=by
 unfold Bm at h;obtain⟨l,e,h⟩:=ar h;split at h
 ·rename_i f;split at h
  ·rename_i b;simp only[]at h;split at h
   ·rename_i d;simp only[VA]at d;injection h with h
    exact⟨l,e,f,.inr ⟨b,h.symm,d.1,d.2⟩⟩
   ·cases h
  ·rename_i b;injection h with h
   exact⟨l,e,f,.inl ⟨by simpa using b,h.symm⟩⟩
 ·cases h
theorem lp {f:Nat}{C:Code}{c:AC}(h:cF T f C=some c) :
 match c with
 | .skip=>C=.skip\/∃l,C=.label l
 | .region d l=>∃id ops,C=.region id ops d/\Bm T f ops d=some (.region d l)
 | .seq a b=>∃A B,C=.seq A B/\cF T f A=some a/\cF T f B=some b
 | .cond x a b=>∃X A B,C=.cond X A B/\cX T X=some x/\cF T f A=some a/\cF T f B=some b
 | .block id a=>∃A,C=.block id A/\cF T f A=some a
 | .loop a=>∃A,C=.loop A/\cF T f A=some a
 | .scope a=>∃A,C=.scope A/\cF T f A=some a
 | .exit id=>C=.exit id
 | .ret=>C=.ret
 | .stop=>True:=by
 cases C<;>simp only[cF]at h
 case skip=>injection h with h;subst h;exact .inl rfl
 case label l=>injection h with h;subst h;exact .inr ⟨l,rfl⟩
 case scope A=>
  obtain⟨a,e,rfl⟩:=aU h;exact⟨A,rfl,e⟩
 case region id ops draw=>
  cases i:Bm T f ops draw with
  |none=>rw[i]at h;injection h with h;subst h;trivial
  |some n=>
   rw[i]at h;injection h with h
   subst h;obtain⟨l,e,j,g|g⟩:=q3l i
   ·obtain⟨g,k⟩:=g;subst g;subst k;exact⟨id,ops,rfl,i⟩
   ·obtain⟨g,k,_⟩:=g;subst g;subst k;exact⟨id,ops,rfl,i⟩
 case seq A B=>
  obtain⟨a,e,h⟩:=ar h;obtain⟨b,j,rfl⟩:=aU h;exact⟨A,B,rfl,e,j⟩
 case cond x A B=>
  obtain⟨c,m,h⟩:=ar h;obtain⟨a,e,h⟩:=ar h;obtain⟨b,j,rfl⟩:=aU h;exact⟨x,A,B,rfl,m,e,j⟩
 case block id A=>
  obtain⟨a,e,rfl⟩:=aU h;exact⟨A,rfl,e⟩
 case loop A=>
  obtain⟨a,e,rfl⟩:=aU h;exact⟨A,rfl,e⟩
 case exit id=>injection h with h;subst h;rfl
 case ret=>injection h with h;subst h;rfl
 all_goals(injection h with h;subst h;trivial)
theorem ZQ : ∀(os:List Oper) {ops:Array Oper} {l:List AOper} (_:uk T ops os=some l),os.length=l.length/\∀(i:Nat) (o:Oper) (a:AOper),os[i]?=some o->l[i]?=some a->j3 T ops o=some a
 | [],ops,l,h=>by simp only[uk]at h;injection h with h;subst h;exact⟨rfl,by simp⟩
 |o :: os,ops,l,h=>by
  simp only[uk,Vz]at h;obtain⟨a,g,q,j,b⟩:=h;injection b with b
  subst b;obtain⟨e,f⟩:=ZQ os j;refine⟨by simp[e],fun i x y c d=>?_⟩;cases i with
  |zero=>simp at c d;subst c;subst d;exact g
  |succ i=>exact f i x y (by simpa using c) (by simpa using d)
theorem qg {w:World}{M:Nat->Prop}{μ:bp}(tb:Tabs T.gid w M){x:Operand}{c:X}(h:cX T x=some c){a:Act}{E:aA}(d:nK T.gid w M μ c.reads a.tmps E):R T.gid w M μ (a.eval x) (am E c):=by
 cases x with
 |tmp t=>simp only[cX]at h;injection h with h;subst h;exact d t (by simp[X.reads])
 |const v=>
  simp only[cX,VV]at h;obtain⟨e,b,rfl⟩:=h;exact(mM b).1
 |func f=>
  simp only[cX,VV]at h;obtain⟨g,b,rfl⟩:=h;exact .c (.p (.fn f g b))
 |global g=>
  simp only[cX,VV]at h;obtain⟨cs,b,rfl⟩:=h;exact .c (.p (tb g cs b))
theorem vE {w:World}{M:Nat->Prop}{μ:bp}(tb:Tabs T.gid w M):∀(b:List Operand) {cs:List X} (_:kP T b=some cs) {a:Act} {E:aA} (_:nK T.gid w M μ (cs.flatMap X.reads) a.tmps E),Rs T.gid w M μ (b.map a.eval) (cs.map (am E))
 | [],cs,h,a,E,e=>by simp only[kP]at h;injection h with h;subst h;exact⟨rfl,by simp⟩
 |x :: b,cs,h,a,E,e=>by
  simp only[kP,Vz]at h;obtain⟨c,i,g,j,d⟩:=h;injection d with d
  subst d;exact Rs.cons (qg tb i fun t f=>e t (by rw[Xp];exact XI _ f)) (vE tb b j fun t f=>e t (by rw[Xp];exact XV _ f))
theorem R.inv_fn {w:World}{M:Nat->Prop}{μ:bp}{gid:Gid}{v:Value}{g:Nat}{caps:List V}(h:R gid w M μ v (.fn g caps)) :
 ∃fid cs,v=.func (.func fid) #[] cs/\gid fid=some g/\Rs gid w M μ cs.toList caps:=by
 cases h with
 |c h=>
  cases h with
  |p h=>cases h with|fn f g a=>exact⟨f,#[],rfl,a,rfl,by simp⟩
  |fn f g cs caps a b d=>exact⟨f,cs,rfl,a,by simpa using b,fun i x y e j=>.c (d i x y (by simpa using e) j)⟩
theorem Rs.append {w:World}{M:Nat->Prop}{μ:bp}{gid:Gid}{vs ws:List Value}{cs c:List V}(h:Rs gid w M μ vs cs)(k:Rs gid w M μ ws c):Rs gid w M μ (vs++ws) (cs++c):=by
 refine⟨by simp[h.1,k.1],fun i x y a b=>?_⟩;by_cases hi:i<vs.length
 ·rw[Vr hi]at a;rw[Vr (by rw[<-h.1];exact hi)]at b;exact h.2 i x y a b
 ·rw[VD (by omega)]at a;rw[VD (by rw[<-h.1];omega),<-h.1]at b;exact k.2 _ x y a b
theorem No {d:Op}{x:X}{q:List X}(h:c7 T d=some (.call x q)):∃f args a,d=.call ⟨.value f,args,a⟩/\cX T f=some x/\kP T args.toList=some q:=by
 cases d
 case call c=>
  obtain⟨b,args,a⟩:=c;cases b
  case value f=>
   simp only[c7]at h;obtain⟨C,j,h⟩:=ar h;obtain⟨D,l,g⟩:=aU h;injection g with g k
   subst g;subst k;exact⟨f,args,a,rfl,j,l⟩
  case invoke r m=>cases h
  case builtin bi=>
   exfalso;cases bi<;>simp only[c7]at h<;>try(cases h;done)
   case len=>
    split at h
    ·split at h
     ·obtain⟨_,_,h⟩:=aU h;cases h
     ·obtain⟨_,_,h⟩:=aU h;cases h
     ·obtain⟨_,_,h⟩:=aU h;cases h
     ·cases h
    ·cases h
   case cap=>
    split at h
    ·split at h
     ·obtain⟨_,_,h⟩:=aU h;cases h
     ·cases h
    ·cases h
   case append=>
    split at h
    ·split at h
     ·obtain⟨e,j,h⟩:=ar h;obtain⟨z,g,h⟩:=ar h;obtain⟨i,k,h⟩:=ar h;obtain⟨A,w,h⟩:=ar h;obtain⟨p,n,h⟩:=ar h;obtain⟨v,o,h⟩:=ar h;split at h<;>cases h
     obtain⟨e,j,h⟩:=ar h;obtain⟨B,l,h⟩:=ar h;obtain⟨z,g,h⟩:=ar h;obtain⟨i,k,h⟩:=ar h;obtain⟨A,w,h⟩:=ar h;obtain⟨p,n,h⟩:=ar h;obtain⟨v,o,h⟩:=ar h;split at h<;>cases h
    ·cases h
   case copy=>
    split at h
    ·obtain⟨e,j,h⟩:=ar h;obtain⟨z,g,h⟩:=ar h;obtain⟨p,n,h⟩:=ar h;obtain⟨v,o,h⟩:=ar h;split at h<;>cases h
    ·cases h
   case min=>
    split at h
    ·obtain⟨_,_,h⟩:=ar h;obtain⟨_,_,h⟩:=aU h;cases h
    ·cases h
   case max=>
    split at h
    ·obtain⟨_,_,h⟩:=ar h;obtain⟨_,_,h⟩:=aU h;cases h
    ·obtain⟨_,_,h⟩:=ar h;obtain⟨_,_,h⟩:=ar h;obtain⟨_,_,h⟩:=aU h;cases h
    ·cases h
 case move y=>obtain⟨_,_,h⟩:=aU h;cases h
 case assign y=>obtain⟨_,_,h⟩:=aU h;cases h
 case pick c y z=>obtain⟨_,_,h⟩:=ar h;obtain⟨_,_,h⟩:=ar h;obtain⟨_,_,h⟩:=aU h;cases h
 case alloc t=>
  obtain⟨_,_,h⟩:=ar h;obtain⟨_,_,h⟩:=ar h;split at h<;>cases h
 case box t y=>obtain⟨_,_,h⟩:=ar h;obtain⟨_,_,h⟩:=aU h;cases h
 case build t ps=>
  simp only[c7]at h;split at h
  ·split at h
   ·obtain⟨_,_,h⟩:=ar h;obtain⟨_,_,h⟩:=aU h;cases h
   ·cases h
  ·obtain⟨_,_,h⟩:=ar h;obtain⟨_,_,h⟩:=ar h;obtain⟨_,_,h⟩:=aU h;cases h
  ·cases h
 case buildSlice t len ps=>
  obtain⟨_,_,h⟩:=ar h;obtain⟨_,_,h⟩:=ar h;obtain⟨_,_,h⟩:=ar h;obtain⟨_,_,h⟩:=ar h;split at h<;>cases h
 case load t y=>obtain⟨_,_,h⟩:=ar h;obtain⟨_,_,h⟩:=ar h;obtain⟨_,_,h⟩:=aU h;cases h
 case store t y z=>obtain⟨_,_,h⟩:=ar h;obtain⟨_,_,h⟩:=ar h;obtain⟨_,_,h⟩:=aU h;cases h
 case binOp bop t y z u=>obtain⟨_,_,h⟩:=ar h;obtain⟨_,_,h⟩:=ar h;obtain⟨_,_,h⟩:=aU h;cases h
 case unOp uop t y=>obtain⟨_,_,h⟩:=aU h;cases h
 case convert src dst y=>
  simp only[c7]at h;split at h
  ·obtain⟨_,_,h⟩:=aU h;cases h
  ·cases h
 case makeFunc fn first caps=>
  cases fn<;>simp only[c7]at h<;>try(cases h;done)
  split at h
  ·obtain⟨_,_,h⟩:=ar h;obtain⟨_,_,h⟩:=aU h;cases h
  ·cases h
 case makeSlice t y z=>
  obtain⟨_,_,h⟩:=ar h;obtain⟨_,_,h⟩:=ar h;obtain⟨_,_,h⟩:=ar h;obtain⟨_,_,h⟩:=ar h;obtain⟨_,_,h⟩:=ar h;obtain⟨_,_,h⟩:=ar h;split at h<;>cases h
 case slice t y lo hi mx=>
  obtain⟨_,_,h⟩:=ar h;obtain⟨_,_,h⟩:=ar h;obtain⟨_,_,h⟩:=ar h;obtain⟨_,_,h⟩:=ar h;obtain⟨_,_,h⟩:=ar h;obtain⟨_,_,h⟩:=ar h;split at h<;>cases h
 case fieldAddr s y f=>
  simp only[c7]at h;split at h
  ·obtain⟨_,_,h⟩:=ar h;obtain⟨_,_,h⟩:=ar h;obtain⟨_,_,h⟩:=ar h;split at h<;>cases h
  ·cases h
 case field t y f=>
  simp only[c7]at h;split at h
  ·obtain⟨_,_,h⟩:=ar h;obtain⟨_,_,h⟩:=ar h;obtain⟨_,_,h⟩:=ar h;obtain⟨_,_,h⟩:=aU h;cases h
  ·cases h
 case indexAddr t y i=>
  simp only[c7]at h;split at h
  ·obtain⟨_,_,h⟩:=ar h;obtain⟨_,_,h⟩:=ar h;obtain⟨_,_,h⟩:=aU h;cases h
  ·obtain⟨_,_,h⟩:=ar h;obtain⟨_,_,h⟩:=ar h;obtain⟨_,_,h⟩:=aU h;cases h
  ·cases h
 case index t y i=>
  simp only[c7]at h;split at h
  ·obtain⟨_,_,h⟩:=ar h;obtain⟨_,_,h⟩:=ar h;obtain⟨_,_,h⟩:=ar h;obtain⟨_,_,h⟩:=aU h;cases h
  ·obtain⟨_,_,h⟩:=ar h;obtain⟨_,_,h⟩:=aU h;cases h
  ·cases h
 case extract y i=>obtain⟨_,_,h⟩:=aU h;cases h
 all_goals(cases h)
theorem Qx {n0:Nat}{o:Oper}{x:X}{q:List X}(m:c7 T o.op=some (.call x q)){E:aA}{H H1 L:ab}{g:Nat}{caps vs:List V}{v:V}(hx:am E x=.fn g caps)(i:prep S g H (q.map (am E)++caps)=some (vs,H1))
 (A:wL T g vs H1 v L):d4 T n0 o (AOp.call x q).reads E H v L:=by
 intro a w M y K Q hn r z hK;obtain⟨dst,U,ty,pos,after,guard⟩:=o;simp only at m;obtain⟨f,args,c,l,Y,Z⟩:=No m;subst l;simp only[AOp.reads]at z;have N:=qg r.tab Y (a:=a) (E:=E) fun t I=>z t (XI _ I)
 have ha:=vE r.tab args.toList Z (a:=a) (E:=E) fun t I=>z t (XV _ I)
 rw[hx]at N;obtain⟨fid,cs,C,hg,B⟩:=N.inv_fn;obtain⟨O,A⟩:=A;obtain⟨fn,h5,h6,h7,h8⟩:=A fid hg;have d:=Rs.append ha B;have j:∃u,Step T.gid n0 w M y H w u y H1/\Rs T.gid w u y (args.toList.map a.eval++cs.toList) vs/\H1.length=H.length:=by
  unfold prep at i;split at i
  ·split at i
   ·injection i with i;injection i with D F
    subst D;subst F;exact⟨M,.refl r,d,rfl⟩
   ·exact Eg _ r i d
  ·exact Eg _ r i d
 obtain⟨u,s,G,hl1⟩:=j;have h:=h8 w u y _ s.sim G;have hb:fn.body.isNone=false:=by cases hq:fn.body<;>simp[hq]at h7 ⊢
 have p:(execOp a.eval ⟨dst,.call ⟨.value f,args,c⟩,ty,pos,after,guard⟩).run T.P w=.ok (.enter fid (args.map a.eval++cs)) w:=by
  simp only[execOp,resolve,C,Deferred.ofValue,pure_bind,invoke,callFunc,Sem.run_bind,run_program,Result.andThen_ok,h5,XQ];have W : (fn.name == "runtime.NumGoroutine") = false := by simpa using h6
  simp[W,hb]
 unfold Oper.wp;rw[p];simp only[Oper.upon];have k:(args.toList.map a.eval++cs.toList).toArray=args.map a.eval++cs:=by
  apply Array.ext';simp
 rw[k]at h;refine h.mono fun e w' he=>?_
 obtain⟨v',P,J,rfl,b,hr⟩:=he;exact hK v' w' P J (s.trans ⟨b.sim,b.ext,b.len,b.size,b.frame,b.shape,b.sub,b.keepM,b.fresh,b.wrmono,b.alv,fun n hn'=>b.low n (by omega),b.os,b.tape,b.output⟩) hr
end Go.Abs
namespace Go.Abs
variable {T : Tab} {S : AProg}
theorem Ru {w:World}{M:Nat->Prop}{μ:bp}{H:ab}(G:Sim T.gid w M μ H){tmps:Array Value}{E:aA}(B:ERel T.gid w M μ tmps E){r:ResultVar}{c:RV}(f:DP T r=some c){v:V}(h:iY E H c=some v) :
 ∃l,(match r with| .tmp t=>pure (tmps.getD t Go.undef)| .cell a t=>do loadVar t (<-asAddr (tmps.getD a Go.undef)):Sem Value).run T.P w=.ok l w/\R T.gid w M μ l v:=by
 cases r with
 |tmp t=>
  simp only[DP]at f;injection f with f;subst f
  simp only[iY]at h;injection h with h;subst h
  exact⟨_,rfl,B t⟩
 |cell a t=>
  simp only[DP]at f;obtain⟨K,y,f⟩:=ar f;obtain⟨z,A,rfl⟩:=aU f;simp only[iY]at h;obtain⟨⟨C,I⟩,d,j⟩:=aU h;simp only at j;subst j;have m:=B a;simp only[aS,am]at d;split at d
  ·rename_i cs s;rw[s]at m;obtain⟨C,j,g⟩:=aU d;injection g with g n;subst g;subst n
   obtain⟨J,q,F⟩:=m.inv_eptr;obtain⟨l,o,p⟩:=CG y A (ZR (μ:=μ) F) j;exact⟨l,by simp only[q,asAddr,pure_bind];exact o,p⟩
  ·rename_i b i off s;rw[s]at m;split at d
   ·rename_i k D;split at d
    ·rename_i e q;obtain⟨C,j,g⟩:=aU d;injection g with g n;subst g;subst n
     obtain⟨c,x,L,u,hv⟩:=m.inv_ptr;obtain⟨l,o,p⟩:=CG y A (Ao G u D q) j;exact⟨l,by simp only[hv,asAddr,pure_bind];exact o,p⟩
    ·cases d
   ·cases d
  ·cases d
theorem q0s {w:World}{M:Nat->Prop}{μ:bp}{H:ab}(i:Sim T.gid w M μ H){tmps:Array Value}{E:aA}(g:ERel T.gid w M μ tmps E):∀(rs:List ResultVar) {cs:List RV} (_:gY T rs=some cs) {vs:List V} (_:ia E H cs=some vs),
 ∃d,(rs.mapM fun r=>(match r with| .tmp t=>pure (tmps.getD t Go.undef)| .cell a t=>do loadVar t (<-asAddr (tmps.getD a Go.undef)):Sem Value)).run T.P w=.ok d w/\Rs T.gid w M μ d vs
 | [],cs,b,vs,h=>by
  simp only[gY]at b;injection b with b;subst b
  simp only[ia]at h;injection h with h;subst h
  exact⟨[],rfl,rfl,by simp⟩
 |r :: rs,cs,b,vs,h=>by
  simp only[gY]at b;obtain⟨c,o,b⟩:=ar b;obtain⟨j,p,e⟩:=ar b;injection e with e;subst e
  simp only[ia]at h;obtain⟨v,q,h⟩:=ar h;obtain⟨d,s,f⟩:=ar h;injection f with f;subst f
  obtain⟨x,k,l⟩:=Ru i g o q;obtain⟨u,m,n⟩:=q0s i g rs p s;refine⟨x :: u,?_,Rs.cons l n⟩;rw[aaz];simp only[Sem.run_bind,k,Result.andThen_ok,m,Sem.run_pure]
theorem QU {w:World}{M:Nat->Prop}{μ:bp}{H:ab}(p:Sim T.gid w M μ H){fn:Func}{tmps:Array Value}{E:aA}(m:ERel T.gid w M μ tmps E){cs:List RV}(n:gY T fn.results.toList=some cs){v:V}(h:d8 E H cs=some v) :
 ∃f,(results fn tmps).run T.P w=.ok f w/\R T.gid w M μ f v:=by
 unfold d8 at h;obtain⟨g,l,b⟩:=aU h;obtain⟨d,k,c⟩:=q0s p m _ n l;have e:(fn.results.mapM fun r=>(match r with| .tmp t=>pure (tmps.getD t Go.undef)| .cell a t=>do loadVar t (<-asAddr (tmps.getD a Go.undef)):Sem Value)).run T.P w=.ok d.toArray w:=by
  rw[aaF];simp only[Sem.run_map,k,Result.andThen_ok]
 refine⟨if h:d.toArray.size=1 then d.toArray[0]else .tuple d.toArray,?_,?_⟩
 ·unfold results;rw[Sem.run_bind]
  erw [e]
  rfl
 ·have o:=c.1
  match g,d,b,o,c with
  | [v0],[j],b,_,c=>
   simp only at b;subst b;simp only[aaa,Xx,dite_true,List.getElem_toArray,List.getElem_cons_zero];exact c.2 0 j v0 rfl rfl
  | [],[],b,_,c=>
   simp only at b;subst b;exact .tup #[] [] rfl (by simp)
  |v0 :: u :: g,j :: z :: d,b,_,c=>
   simp only at b;subst b;rw[dif_neg (by simp)];exact .tup _ _ (by simpa using c.1) (fun i x y q s=>c.2 i x y (by simpa using q) s)
theorem ZZ {n0 f:Nat}{w g:World}{M e:Nat->Prop}{μ a:bp}{H H1:ab}{x:AX}{c:aA}{d:ab}{Q:Exit->Act->World->Prop}(h:jD T n0 f w M μ H x c d Q)(st:Step T.gid n0 w M μ H g e a H1):jD T n0 f g e a H1 x c d Q:=
 fun j o i b n k l m=>h j o i b (st.trans n) k l m
theorem nx {n0:Nat}{c:AC}{E:aA}{H:ab}{x:AX}{g:aA}{b:ab}(j:H.length<=b.length)(i:∀d,c≠.loop d)
 (h:∀(f:Nat) (C:Code) (a:Act) (w:World) (M:Nat->Prop) (μ:bp) (Q:Exit->Act->World->Prop),cF T f C=some c->n0<=H.length->f<=a.tmps.size->Sim T.gid w M μ H->ERel T.gid w M μ a.tmps E->a.defers=[] ->
  jD T n0 f w M μ H x g b Q->C.wp T.P Q a w):wN T n0 c E H x g b:=⟨j,h,fun d e=>absurd e (i d)⟩
theorem Ut {H:ab}{c a:V}{H1:ab}(h:bm H c=some (a,H1)):H1.length=H.length:=(q2y (acc:=[]) h).2
theorem AH : ∀(cs:List V) {H:ab} {a:List V} {H1:ab},cq H cs=some (a,H1)->H1.length=H.length
 | [],H,a,H1,h=>by simp only[cq]at h;injection h with h;injection h with _ h;rw[h]
 |c :: cs,H,a,H1,h=>by
  simp only[cq]at h;obtain⟨⟨k,i⟩,e,h⟩:=ar h;obtain⟨⟨d,j⟩,f,b⟩:=ar h;injection b with b;injection b with _ g
  rw[<-g,AH cs f,Ut e]
theorem y8 {H:ab}{c b:V}{H1:ab}(h:aF H c=some (b,H1)):H1.length=H.length:=by
 cases c<;>simp only[aF]at h<;>first
  |exact Ut h
  | (obtain⟨⟨d,g⟩,e,a⟩:=ar h
     injection a with a;injection a with _ f
     rw[<-f];exact AH _ e)
theorem UX : ∀(cs:List V) {H:ab} {a:List V} {H1:ab},ah H cs=some (a,H1)->H1.length=H.length
 | [],H,a,H1,h=>by simp only[ah]at h;injection h with h;injection h with _ h;rw[h]
 |c :: cs,H,a,H1,h=>by
  simp only[ah]at h;obtain⟨⟨k,i⟩,e,h⟩:=ar h;obtain⟨⟨d,j⟩,f,b⟩:=ar h;injection b with b;injection b with _ g
  rw[<-g,UX cs f,y8 e]
theorem DU {H:ab}{c b:V}{H1:ab}(h:d6 H c=some (b,H1)):H1.length=H.length:=by
 simp only[d6]at h;obtain⟨⟨g,f⟩,d,a⟩:=ar h;simp only[]at a;split at a
 ·injection a with a;injection a with _ e;rw[<-e];exact y8 d
 ·cases a
theorem Eb : ∀(cs:List V) {H:ab} {a:List V} {H1:ab},gM H cs=some (a,H1)->H1.length=H.length
 | [],H,a,H1,h=>by simp only[gM]at h;injection h with h;injection h with _ h;rw[h]
 |c :: cs,H,a,H1,h=>by
  simp only[gM]at h;obtain⟨⟨k,i⟩,e,h⟩:=ar h;obtain⟨⟨d,j⟩,f,b⟩:=ar h;injection b with b;injection b with _ g
  rw[<-g,Eb cs f,DU e]
theorem zy {n0:Nat}{H acc:ab}{c g:V}{H1 d:ab}(h:fL n0 H acc c=some (g,H1,d)):H1.length=H.length:=by
 have e:(bm H c).bind (fun(g,H1)=>if g.cellPure=true then some (g,H1,acc)else none)=some (g,H1,d)->H1.length=H.length:=by
  intro h;obtain⟨⟨k,j⟩,i,f⟩:=ar h;simp only[]at f;split at f
  ·injection f with f;injection f with _ a;injection a with a _;rw[<-a];exact Ut i
  ·cases f
 cases c
 case nil=>
  simp only[fL]at h;injection h with h;injection h with _ a;injection a with a _;rw[<-a]
 case ref b z off len=>
  simp only[fL]at h;split at h
  ·split at h
   ·injection h with h;injection h with _ a;injection a with a _;rw[<-a];simp
   ·split at h
    ·injection h with h;injection h with _ a;injection a with a _;rw[<-a]
    ·cases h
  ·cases h
 all_goals exact e h
theorem Bh {n0:Nat}:∀(cs:List V) {H acc:ab} {b:List V} {H1 a:ab},fz n0 H acc cs=some (b,H1,a)->H1.length=H.length
 | [],H,acc,b,H1,a,h=>by simp only[fz]at h;injection h with h;injection h with _ h;injection h with h _;rw[h]
 |c :: cs,H,acc,b,H1,a,h=>by
  simp only[fz]at h;obtain⟨⟨n,j,l⟩,g,h⟩:=ar h;obtain⟨⟨f,k,m⟩,i,d⟩:=ar h;injection d with d;injection d with _ e;injection e with e _
  rw[<-e,Bh cs i,zy g]
theorem zC {n0:Nat}{H acc:ab}{c e:V}{H1 a:ab}(h:fK n0 H acc c=some (e,H1,a)):H1.length=H.length:=by
 cases c<;>simp only[fK]at h<;>first
  |exact zy h
  | (obtain⟨⟨f,i,j⟩,g,b⟩:=ar h
     injection b with b;injection b with _ d;injection d with d _
     rw[<-d];exact Bh _ g)
theorem Bj {n0:Nat}:∀(cs:List V) {H acc:ab} {b:List V} {H1 a:ab},fy n0 H acc cs=some (b,H1,a)->H1.length=H.length
 | [],H,acc,b,H1,a,h=>by simp only[fy]at h;injection h with h;injection h with _ h;injection h with h _;rw[h]
 |c :: cs,H,acc,b,H1,a,h=>by
  simp only[fy]at h;obtain⟨⟨n,j,l⟩,g,h⟩:=ar h;obtain⟨⟨f,k,m⟩,i,d⟩:=ar h;injection d with d;injection d with _ e;injection e with e _
  rw[<-e,Bj cs i,zC g]
theorem KF {own:Bool}{n0:Nat}{H:ab}{v i:V}{g:ab}(j:n0<=H.length)(h:fin own n0 H v=some (i,g)):n0<=g.length:=by
 unfold fin at h;cases own with
 |true=>
  simp only[Wm]at h;split at h
  ·obtain⟨⟨d,e,f⟩,b,a⟩:=ar h;injection a with a;injection a with _ c
   have:=Bj _ b;rw[<-c];simp;omega
  ·obtain⟨⟨d,e,f⟩,b,a⟩:=ar h;injection a with a;injection a with _ c
   have:=zC b;rw[<-c];simp;omega
 |false=>
  simp only[Vv,V8]at h;split at h
  ·obtain⟨⟨d,e⟩,b,a⟩:=ar h;injection a with a;injection a with _ c
   have:=Eb _ b;rw[<-c];simp;omega
  ·obtain⟨⟨k,e⟩,b,a⟩:=ar h;injection a with a;injection a with _ c
   have:=DU b;rw[<-c];simp;omega
theorem q0h {n0 z:Nat}{x y:V}{H:ab}{v:V}{H1:ab}(h:nd n0 z x y H=some (v,H1)):H.length<=H1.length:=by
 unfold nd at h;split at h
 ·split at h
  ·split at h
   ·obtain⟨⟨d,c⟩,a,h⟩:=ar h;have b:c.length=H.length:=by
     split at a
     ·exact DU a
     ·injection a with a;injection a with _ a;rw[a]
    simp only[]at h;split at h
    ·split at h
     ·split at h
      ·injection h with h;injection h with _ h;rw[<-h];simp[b]
      ·cases h
     ·cases h
    ·cases h
   ·cases h
  ·cases h
 ·cases h
theorem yB {n0:Nat}{op:AOp}{E:aA}{H:ab}{v:V}{H1:ab}(h:aS n0 op E H=some (v,H1)):H.length<=H1.length:=by
 by_cases i:op.loud=false
 ·by_cases j:∃d z t,op=.sload d z t
  ·obtain⟨d,z,t,rfl⟩:=j;simp only[aS]at h;split at h
   ·obtain⟨u,_,h⟩:=aU h;injection h with _ h;rw[h];exact Vo _
   ·split at h
    ·split at h
     ·obtain⟨u,_,h⟩:=ar h;split at h
      ·injection h with h;injection h with _ h;rw[h];exact Vo _
      ·cases h
     ·cases h
    ·cases h
   ·cases h
  ·rw[(A6 i (fun d z t e=>j ⟨d,z,t,e⟩) h).1];exact Vo _
 ·cases op<;>try(exact absurd rfl i)
  case box z x=>
   simp only[aS]at h;split at h
   ·injection h with h;injection h with _ h;rw[<-h];simp
   ·cases h
  case new z x=>
   simp only[aS]at h;split at h
   ·injection h with h;injection h with _ h;rw[<-h];simp
   ·cases h
  case bslice z len zero ps=>
   simp only[aS]at h;split at h
   ·obtain⟨⟨o,n⟩,f,h⟩:=ar h;obtain⟨el,a,g⟩:=aU h;injection g with _ g
    rw[<-g];simp[Eb _ f]
   ·cases h
  case load d z x=>
   simp only[aS]at h;split at h
   ·obtain⟨q,f,a⟩:=aU h;injection a with _ a;rw[a];exact Vo _
   ·split at h
    ·split at h
     ·obtain⟨q,f,a⟩:=aU h;injection a with _ a;rw[a];exact Vo _
     ·cases h
    ·cases h
   ·cases h
  case store z x y=>exact q0h (by simpa only[aS]using h)
  case storeN z x y av=>
   simp only[aS]at h;split at h
   ·exact q0h h
   ·cases h
  case mkslice z b zero l c=>
   simp only[aS]at h;split at h
   ·split at h
    ·injection h with h;injection h with _ h;rw[<-h];simp
    ·cases h
   ·cases h
  case appendZ z b zero x m=>
   simp only[aS]at h;split at h
   ·split at h
    ·injection h with h;injection h with _ h;rw[<-h];simp
    ·cases h
   ·cases h
  case append z b x y=>
   simp only[aS]at h;obtain⟨k,f,h⟩:=ar h;split at h
   ·split at h
    ·split at h
     ·injection h with h;injection h with _ h;rw[h];exact Vo _
     ·split at h
      ·injection h with h;injection h with _ h;rw[<-h];simp
      ·cases h
    ·split at h
     ·split at h
      ·split at h
       ·injection h with h;injection h with _ h;rw[h];exact Vo _
       ·injection h with h;injection h with _ h;rw[<-h];simp
      ·cases h
     ·cases h
    ·cases h
   ·cases h
  case copy z x y=>
   simp only[aS]at h;split at h
   ·obtain⟨k,f,h⟩:=ar h;split at h
    ·split at h
     ·injection h with h;injection h with _ h;rw[<-h];simp
     ·cases h
    ·cases h
   ·cases h
  case call x q=>simp[aS]at h
theorem Oc {g:Nat}{H:ab}{args vs:List V}{H1:ab}(h:prep S g H args=some (vs,H1)):H1.length=H.length:=by
 unfold prep at h;split at h
 ·split at h
  ·injection h with h;injection h with _ h;rw[h]
  ·exact UX _ h
 ·exact UX _ h
theorem Ry (bits:List Nat)(l:List AOper)(i:Nat)(o:AOper):Soft (ow bits l i o) o.op:=by
 unfold ow;split
 ·rename_i c z t h;rw[h];split
  ·exact .load c z t
  ·exact .refl _
 ·rename_i z a x h;rw[h];split
  ·exact .refl _
  ·exact .store z a x _
 ·rename_i z len zero b h;rw[h];split
  ·rename_i d e;split
   ·exact .lit e
   ·exact .refl _
  ·exact .refl _
 ·exact .refl _
theorem Q8 (late:Bool)(bits:List Nat)(l:List AOper):(qI late bits l).length=l.length:=by simp[qI,lW]
theorem R5 (bits:List Nat)(l:List AOper):(lA bits l).length=l.length:=by
 unfold lA;split
 ·simp[uG,Bz]
 ·split<;>exact Q8 _ _ _
theorem Q7 {late:Bool}{bits:List Nat}{l:List AOper}{i:Nat}{c:AOper}(h:(qI late bits l)[i]?=some c):∃a j op,l[i]?=some a/\Soft op a.op/\c={ a with sync:=j,op:=op }:=by
 unfold qI at h;rw[XZ]at h;obtain⟨d,b,e⟩:=aU h;unfold lW at b;rw[XZ]at b;obtain⟨a,f,g⟩:=aU b;exact⟨a,lZ late bits (lW bits l) i d,ow bits l i a,f,Ry bits l i a,by rw[<-e,<-g]⟩
theorem Sb (bits:List Nat)(l:List AOper)(i:Nat)(o:AOper):Soft (DL bits l i o) o.op:=by
 unfold DL;split
 ·rename_i h;rw[h];split
  ·exact .load _ _ _
  ·exact .refl _
 ·rename_i h;rw[h];split
  ·exact .plit _ _ _ _
  ·exact .refl _
 ·exact .refl _
theorem R6 {bits:List Nat}{l:List AOper}{i:Nat}{c:AOper}(h:(uG bits l)[i]?=some c):∃a j op,l[i]?=some a/\Soft op a.op/\c={ a with sync:=j,op:=op }:=by
 unfold uG at h;rw[XZ]at h;obtain⟨d,b,e⟩:=VV.1 h;unfold Bz at b;rw[XZ]at b;obtain⟨a,f,g⟩:=VV.1 b;exact⟨a,lZ false bits (Bz bits l) i d,DL bits l i a,f,Sb bits l i a,by rw[<-e,<-g]⟩
theorem R4 {bits:List Nat}{l:List AOper}{i:Nat}{b:AOper}(h:(lA bits l)[i]?=some b):∃a c op,l[i]?=some a/\Soft op a.op/\b={ a with sync:=c,op:=op }:=by
 unfold lA at h;split at h
 ·exact R6 h
 ·split at h<;>exact Q7 h
theorem U2 {ops:Array Oper}{os:List Oper}{o:Oper}{l:List AOper}{a:AOper}(h:∀(i:Nat) (x:Oper) (y:AOper),(o :: os)[i]?=some x->(a :: l)[i]?=some y->Link T ops x y) :
 Link T ops o a/\∀(i:Nat) (x:Oper) (y:AOper),os[i]?=some x->l[i]?=some y->Link T ops x y:=
 ⟨h 0 o a rfl rfl,fun i x y b c=>h (i+1) x y (by simpa using b) (by simpa using c)⟩
theorem So {w:World}{M:Nat->Prop}{μ:bp}{vs:List Value}{args:List V}(h:Rs T.gid w M μ vs args)(n:Nat):ERel T.gid w M μ (vs.toArray++Array.replicate n Go.undef) (E0 args):=by
 intro t;unfold E0;rw[VS,List.getD_eq_getElem?_getD];by_cases b:t<vs.length
 ·have a:t<args.length:=by rw[<-h.1];exact b
  rw[aay (by simpa using b)];simp only[Xg,k9 b,k9 a,Xd];exact h.2 t _ _ (k9 b) (k9 a)
 ·have a:¬t<args.length:=by rw[<-h.1];exact b
  rw[abl (by omega),Array.getElem?_append_right (by simp;omega),XJ];split<;>exact R.undef
theorem Rs.emp {gid:Gid}{w:World}{M:Nat->Prop}{μ:bp}{vs:List Value}{pre post:List V}(h:Rs gid w M μ vs (pre++.sl [] :: post)):Rs gid w M μ vs (pre++.nil :: post)\/Rs gid w M μ vs (pre++.emp :: post):=by
 have a:pre.length<vs.length:=by have:=h.1;simp at this;omega
 have e:R gid w M μ vs[pre.length] (.sl []):=h.2 pre.length _ _ (k9 a) (by simp);have f:∀{b:V},R gid w M μ vs[pre.length] b->Rs gid w M μ vs (pre++b :: post):=by
  intro b j;refine⟨by simpa using h.1,fun i v c hv g=>?_⟩;by_cases hi:i=pre.length
  ·subst hi;simp at g;subst g;rw[k9 a]at hv;injection hv with hv
   subst hv;exact j
  ·refine h.2 i v c hv ?_;rw[<-g];by_cases a:i<pre.length
   ·rw[Vr a,Vr a]
   ·rw[VD (by omega),VD (by omega)];have⟨k,l⟩:∃k,i-pre.length=k+1:=⟨i-pre.length-1,by omega⟩
    rw[l];rfl
 have:∀{v:Value},R gid w M μ v (.sl [])->R gid w M μ v .nil\/R gid w M μ v .emp:=by
  intro v e;cases e with
  |c e=>cases e with
   |p e=>
    rcases e.sl_emp with d|d
    ·exact .inl (.c (.p d))
    ·exact .inr (.c (.p d))
 rcases this e with d|d
 ·exact .inl (f d)
 ·exact .inr (f d)
theorem uZ {P:Program}{b:Frame}{a:Act}{k:List Item}{cs:List Frame}{w:World}{c:Code} :
 step P (lone (b.at a (.code (.scope c) :: k)) cs w)=.next (lone (b.at a (.code c :: .inScope c :: k)) cs w):=
 step_lone_go (by simp[stepG,stepG.exec,Frame.at])
theorem Sc {P:Program}{b:Frame}{a:Act}{k:List Item}{cs:List Frame}{w:World}{c:Code} :
 step P (lone (b.at a (.inScope c :: k)) cs w)=.next (lone (b.at a k) cs w):=
 step_lone_go (by simp[stepG,stepG.exec,Frame.at])
theorem Oo {P:Program}{Q:Exit->Act->World->Prop}{a:Act}{w:World}{c:Code}(h:c.wp P (fun e a w=>Q e a w/\∀l,e≠.goto l) a w):(Code.scope c).wp P Q a w:=by
 intro b k cs;obtain⟨e,f,g,⟨m,i⟩,d⟩:=h b (.inScope c :: k) cs;refine⟨e,f,g,m,?_⟩;cases e with
 |normal=>exact .head uZ (Steps.trans d (.one Sc))
 |exit id=>exact fun n j=>.head uZ (d n (by simpa[exitTo]using j))
 |goto l=>exact absurd rfl (i l)
 |ret=>exact .of_steps (.one uZ) d
 |panic ch=>exact .of_steps (.one uZ) d
 |outgrown=>exact .of_steps (b:=b) (k:=k) (cs:=cs) (e:=.outgrown) (.one uZ) d
theorem uA (seat:Seat T S){t:Task}{r:Res}(h:Ev S t r):Su T t r:=by
 induction h with
 |skip=>
  refine nx (Vo _) (by simp) fun F C a w M m Q O U K p G L N=>?_
  rcases lp O with hC|⟨l,hC⟩
  ·rw[hC];exact wp_skip (N a w M m (.refl p) G L K)
  ·rw[hC];exact wp_label (N a w M m (.refl p) G L K)
 | @scope n0 cc E H x E1 H1 _ c=>
  refine nx c.1 (by simp) fun F C a w M m Q O U K p G L N=>?_
  obtain⟨A,rfl,g1⟩:=lp O;refine Oo (c.2.1 F A a w M m _ g1 U K p G L fun a' w' M' I st u q P=>?_);refine⟨N a' w' M' I st u q P,fun l h=>?_⟩;cases x<;>cases h
 | @seqN n0 ca cb E H E1 H1 r _ _ c Y=>
  cases r with
  |ret v H'=>trivial
  |cd x E' H'=>
   refine nx (Vp c.1 Y.1) (by simp) fun F C a w M m Q O U K p G L N=>?_
   obtain⟨A,B,rfl,g1,g2⟩:=lp O;refine wp_seq (c.2.1 F A a w M m _ g1 U K p G L fun a' w' M' I st u q P=>?_);exact Y.2.1 F B a' w' M' I Q g2 (by have:=c.1;omega) P st.sim u q (ZZ N st)
 | @seqX n0 ca cb E H x E1 H1 _ hx c=>
  refine nx c.1 (by simp) fun F C a w M m Q O U K p G L N=>?_
  obtain⟨A,B,rfl,g1,g2⟩:=lp O;refine wp_seq (c.2.1 F A a w M m _ g1 U K p G L fun a' w' M' I st u q P=>?_);have:=N a' w' M' I st u q P;cases x with
  |normal=>exact absurd rfl hx
  |exit id=>exact this
  |ret=>exact this
 | @cond n0 cx ca cb E H t r hcx _ c=>
  cases r with
  |ret v H'=>trivial
  |cd x E' H'=>
   refine nx c.1 (by simp) fun F C a w M m Q O U K p G L N=>?_
   obtain⟨X,A,B,rfl,g0,g1,g2⟩:=lp O;have hxr:=c8 p.tab g0 G;rw[hcx]at hxr;refine wp_cond hxr.inv_bool ?_;cases t with
   |true=>exact c.2.1 F A a w M m Q g1 U K p G L N
   |false=>exact c.2.1 F B a w M m Q g2 U K p G L N
 | @block n0 id cc E H x E1 H1 _ c=>
  refine nx c.1 (by simp) fun F C a w M m Q O U K p G L N=>?_
  obtain⟨A,rfl,g1⟩:=lp O;refine wp_block (c.2.1 F A a w M m _ g1 U K p G L fun a' w' M' I st u q P=>?_);have:=N a' w' M' I st u q P;cases x with
  |normal=>exact this
  |ret=>exact this
  |exit id'=>
   simp only[AX.toExit,Exit.inBlock,AX.outOf]at this ⊢;split
   ·rename_i e;rw[Vh e]at this;exact this
   ·rename_i e;rw[Vk e]at this;exact this
 | @loopN n0 cc E H E1 H1 r _ _ c Y=>
  cases r with
  |ret v H'=>trivial
  |cd x E' H'=>
   obtain⟨n,hn2⟩:=Y.2.2 cc rfl;have rounds:∀(F:Nat) (C:Code) (a:Act) (w:World) (M:Nat->Prop) (m:bp) (Q:Exit->Act->World->Prop),cF T F C=some cc->n0<=H.length->F<=a.tmps.size->Sim T.gid w M m H->ERel T.gid w M m a.tmps E->a.defers=[] ->
    jD T n0 F w M m H x E' H' Q->Code.rounds T.P C Q (n+1) a w:=by
    intro F C a w M m Q O U K p G L N;rw[rounds_succ];refine c.2.1 F C a w M m _ O U K p G L fun a' w' M' I st u q P=>?_
    exact hn2 F C a' w' M' I Q O (by have:=c.1;omega) P st.sim u q (ZZ N st)
   refine⟨Vp c.1 Y.1,fun F C a w M m Q O U K p G L N=>?_,fun c' e=>by injection e with e;subst e;exact⟨n+1,rounds⟩⟩;obtain⟨A,rfl,g1⟩:=lp O;exact wp_loop_rounds (n+1) (rounds F A a w M m Q g1 U K p G L N)
 | @loopX n0 cc E H x E1 H1 _ hx c=>
  have rounds:∀(F:Nat) (C:Code) (a:Act) (w:World) (M:Nat->Prop) (m:bp) (Q:Exit->Act->World->Prop),cF T F C=some cc->n0<=H.length->F<=a.tmps.size->Sim T.gid w M m H->ERel T.gid w M m a.tmps E->a.defers=[] ->
   jD T n0 F w M m H x E1 H1 Q->Code.rounds T.P C Q (0+1) a w:=by
   intro F C a w M m Q O U K p G L N;rw[rounds_succ];refine c.2.1 F C a w M m _ O U K p G L fun a' w' M' I st u q P=>?_
   have:=N a' w' M' I st u q P;cases x with
   |normal=>exact absurd rfl hx
   |exit id=>exact this
   |ret=>exact this
  refine⟨c.1,fun F C a w M m Q O U K p G L N=>?_,fun c' e=>by injection e with e;subst e;exact⟨0+1,rounds⟩⟩;obtain⟨A,rfl,g1⟩:=lp O;exact wp_loop_rounds (0+1) (rounds F A a w M m Q g1 U K p G L N)
 |exit=>
  refine nx (Vo _) (by simp) fun F C a w M m Q O U K p G L N=>?_
  have hC:C=_:=lp O;rw[hC];exact wp_exit (N a w M m (.refl p) G L K)
 |ret=>
  refine nx (Vo _) (by simp) fun F C a w M m Q O U K p G L N=>?_
  have hC:C=_:=lp O;rw[hC];exact wp_ret (N a w M m (.refl p) G L K)
 | @region n0 d l E H E1 H1 _ c=>
  obtain⟨_,W,Z⟩:=c;refine nx W (by simp) fun F C a w M m Q O U K p G L N=>?_
  obtain⟨id,ops,rfl,g1⟩:=lp O;obtain⟨l0,g2,g3,g4⟩:=q3l g1;obtain⟨g5,g6⟩:=ZQ _ g2;rcases g4 with ⟨rfl,g4⟩|⟨rfl,g4,g7,g8⟩
  ·injection g4 with _ g4
   subst g4;have tr:=Z ops ops.toList g5 fun i o ao h1 h2=>ZP (g6 i o ao h1 h2) ao.sync (.refl _)
   refine wp_region ?_;have:=tr.plain 0 (by simp) F g3 a w M m K U p G L Q fun a' w' M' I st u q hsz=>N a' w' M' I st u q (by omega)
   rw[List.range_eq_range'];simpa using this
  ·injection g4 with _ g4
   subst g4;have gl:∀(i:Nat) (ao:AOper),(lA (eW ops.toList []) l0)[i]?=some ao->∃a0 sy op,l0[i]?=some a0/\Soft op a0.op/\ao={ a0 with sync:=sy,op:=op }:=fun i ao h=>R4 h
   have tr:=Z ops ops.toList (by rw[R5];exact g5) fun i o ao h1 h2=>by
    obtain⟨a0,sy,op,h3,h4,h5⟩:=gl i ao h2;subst h5;exact ZP (g6 i o a0 h1 h3) _ h4
   obtain⟨Es,Hs,vs,hr,h1,h2,h3,h4⟩:=tr.run;have hds:pk F (lA (eW ops.toList []) l0)=true:=by
    unfold pk;rw[VU];intro ao hao;obtain⟨i,hi⟩:=Wa hao;obtain⟨a0,sy,op,h5,_,h6⟩:=gl i ao hi;subst h6;exact VU.1 g3 a0 (VX h5)
   have hst:Static ops.toList (lA (eW ops.toList []) l0):=by
    refine⟨fun i o hi=>?_,fun i o ao _ hao=>?_,fun i j a b hij ha hb=>?_⟩
    ·have hi':i<ops.size:=by
      have:=(Vi.1 hi).1;simpa using this
     have:=VU.1 g7 i (List.mem_range.2 hi');have ho:ops[i]?=some o:=by simpa using hi
     simpa[ho]using this
    ·unfold ul at g8;rw[VA]at g8;exact VU.1 g8.1 ao (VX hao)
    ·have hj:j<(lA (eW ops.toList []) l0).length:=(Vi.1 hb).1;unfold ul at g8;rw[VA]at g8;have:=VU.1 g8.2 j (List.mem_range.2 hj);have:=VU.1 this i (List.mem_range.2 hij);rw[ha,hb]at this;exact this
   refine wp_region_any seat.mixed ?_;subst h1;subst h2;have hs':=p.same (Same.drew w);obtain⟨e,hH⟩:=HInv.begin (D:=fun i=>(Array.replicate ops.size false).getD i false=true) (w0:=w) (M0:=M) (μ0:=m) (w:=w.drew) (M:=M) (μ:=m) (s:=0) hr (Xa _) (fun j hj=>by omega)
    (fun j _ _ hD=>by
     rw[VS,XJ]at hD;split at hD<;>cases hD) (Step.same p (Same.drew w))
   refine O0 hr hst U Q hds (fun a' w' M' I st u q hsz=>N a' w' M' I (by rw[<-h4];exact st) (by rw[<-h3];exact u) q hsz) ops.size _ a w.drew M m 0 e (by simp) ?_ ?_ hH ?_ K L
   ·unfold left;refine Vp (List.length_filter_le _ _) ?_;simp
   ·intro i o hD;have hD:(Array.replicate ops.size false).getD i false=true:=hD;rw[VS,XJ]at hD;split at hD<;>cases hD
   ·intro t;refine .inr ⟨fun j _ hD=>?_,?_⟩
    ·have hD:(Array.replicate ops.size false).getD j false=true:=hD;rw[VS,XJ]at hD;split at hD<;>cases hD
    ·refine(G t).mono ((Same.drew w).keep M) (Same.drew w).shape fun b x hx=>?_
     unfold bQ;rw[Vh (p.dom b x hx)];exact hx
 |opNil=>
  refine⟨rfl,Vo _,fun ops os hl _=>?_⟩;have:os=[]:=VK (by simpa using hl);subst this;exact .nil
 | @opSkip n0 d o l E H r hg _ c=>
  cases r with
  |ret v H'=>trivial
  |cd x E' H'=>
   obtain⟨hx,W,Z⟩:=c;refine⟨hx,W,fun ops os hl hk=>?_⟩;cases os with
   |nil=>simp at hl
   |cons oo os=>
    obtain⟨k1,k2⟩:=U2 hk;exact .skip k1 hg (Z ops os (by simpa using hl) k2)
 | @opDo n0 d o l E H v H1 r hg J hpre _ c=>
  cases r with
  |ret v H'=>trivial
  |cd x E' H'=>
   obtain⟨hx,W,Z⟩:=c;refine⟨hx,Vp (yB J) W,fun ops os hl hk=>?_⟩;cases os with
   |nil=>simp at hl
   |cons oo os=>
    obtain⟨k1,k2⟩:=U2 hk;obtain⟨op0,ko,ks⟩:=k1.op;refine .step k1 hg (Cr ko ks J) (yB J) hpre (fun hq=>?_) (fun z x y av e t K b i off G=>?_) (fun hk b k hb h1=>?_) (Z ops os (by simpa using hl) k2)
    ·by_cases p:∃ag z t,o.op=.sload ag z t
     ·obtain⟨ag,z,t,e⟩:=p;rw[e]at J ks ⊢;obtain⟨q1,q2⟩:=RJ ko ks J;exact⟨q1,q2.symm⟩
     ·obtain⟨q1,q2⟩:=A6 hq (fun ag z t e=>p ⟨ag,z,t,e⟩) J;exact⟨q1,.inl fun Hc=>Cr ko ks (q2 Hc)⟩
    ·rw[e]at J;exact q64 J K G
    ·cases hop:o.op<;>rw[hop]at hk J<;>first| (cases hk;done)|exact RK J hb h1
 | @opCall n0 d o l E H x xs g caps vs H1 v H2 r hg ho hx hp _ hpre _ c Y=>
  cases r with
  |ret v H'=>trivial
  |cd x' E' H'=>
   obtain⟨hxx,W,Z⟩:=Y;have hl12:H.length<=H2.length:=by
    have:=Oc hp;have:=c.1;omega
   refine⟨hxx,Vp hl12 W,fun ops os hl hk=>?_⟩;cases os with
   |nil=>simp at hl
   |cons oo os=>
    obtain⟨k1,k2⟩:=U2 hk;obtain⟨op0,ko,ks⟩:=k1.op;have hop:c7 T oo.op=some (.call x xs):=by
     rw[ho]at ks;cases ks;exact ko
    refine .step k1 hg (by rw[ho];exact Qx hop hx hp c) hl12 hpre (fun hq=>?_) (fun z x y av e=>by rw[ho]at e;cases e) (fun hk=>by rw[ho]at hk;cases hk) (Z ops os (by simpa using hl) k2);rw[ho]at hq;cases hq
 | @call g f args H x E1 H1 v0 v H2 hf _ hx hres hfin c=>
  have hlen2:H.length<=H2.length:=KF c.1 hfin;refine⟨hlen2,fun fid hg=>?_⟩;obtain⟨fn,C,s1,s2,s3,s4,s5⟩:=seat.fns fid g f hg hf;refine⟨fn,s1,s2,by rw[s3];rfl,fun w M m vs p hrs=>?_⟩;refine calls_of_wp s1 s3 ?_;have G:=So hrs (fn.ntmps-vs.toArray.size);refine c.2.1 fn.ntmps C _ w M m _ s4 (Vo _) (by simp;omega) p G rfl fun a' w' M' I st u q P=>?_
  obtain⟨v',r1,r2⟩:=QU st.sim u s5 hres;obtain⟨M2,μ2,st2,r3⟩:=O5 rfl (p.lowH (Vo _)) st r2 hfin;rcases hx with rfl|rfl
  ·exact⟨q,v',r1,v',M2,μ2,rfl,st2,r3⟩
  ·exact⟨q,v',r1,v',M2,μ2,rfl,st2,r3⟩
 | @emp g pre post H r _ _ c Y=>
  cases r with
  |cd x E' H'=>trivial
  |ret v H'=>
   refine⟨c.1,fun fid hg=>?_⟩;obtain⟨fn,h1,h2,h3,h4⟩:=c.2 fid hg;obtain⟨fn',h1',_,_,h5⟩:=Y.2 fid hg;refine⟨fn,h1,h2,h3,fun w M m vs p hrs=>?_⟩;rcases hrs.emp with hr|hr
   ·exact h4 w M m vs p hr
   ·exact h5 w M m vs p hr
 | @prim g args H v hp=>
  refine⟨Vo _,fun fid hg=>?_⟩;obtain⟨fn,s1,s2,s3,s4⟩:=seat.prims fid g args v H hg hp;exact⟨fn,s1,s2,s3,s4⟩
end Go.Abs
namespace Go.Abs
def j1 (l:List Nat)(f:FuncId):Option Nat:=
 match l[f]? with
 |some 0=>none
 |some (n+1)=>some (n+1)
 |none=>none
def l4 (l:List (Nat × List V))(g:Nat):Option (List V):=
 match l with
 | []=>none
 | (i,cs) :: l=>if g=i then some cs else l4 l g
structure Row where
 fid:Nat
 gid:Nat
 fn:AFn
structure RowOk (T:Tab)(r:Row):Prop where
 ok:∃f,T.P.funcs[r.fid]?=some f/\mn T f=some (r.fn.results,r.fn.body)
theorem OR {T:Tab}{f:Func}{rs:List RV}{b:AC}(h:mn T f=some (rs,b)) :
 f.name ≠ "runtime.NumGoroutine" ∧ ∃ C, f.body = some C ∧ cF T f.ntmps C = some b ∧ gY T f.results.toList = some rs := by
 unfold mn at h;split at h
 ·cases h
 ·rename_i hn;simp only[Vz,VV]at h;obtain⟨C,h1,c,h2,rs',h3,h4⟩:=h;injection h4 with h4 h5
  subst h4;subst h5;exact⟨hn,C,h1,h2,h3⟩
theorem Q9 {T:Tab}{fns:List (Nat × AFn)}{S:AProg}{l:List Nat}(hg:T.gid=j1 l)(hS:S.fn=ku fns)(rows:List Row)
 (hok:∀r ∈ rows,RowOk T r)
 (hall:((List.range l.length).all fun i=>match j1 l i with
  |none=>true
  |some g=>(fns.find? fun p=>p.1 == g).isNone ||rows.any fun r=>r.fid == i&&r.gid == g)=true)
 (hsame:∀r ∈ rows,ku fns r.gid=some r.fn) :
 ∀ fid g f, T.gid fid = some g → S.fn g = some f → ∃ fn C, T.P.funcs[fid]? = some fn ∧ fn.name ≠ "runtime.NumGoroutine" ∧ fn.body = some C ∧ cF T fn.ntmps C = some f.body ∧ gY T fn.results.toList = some f.results := by
 intro fid g f h1 h2;rw[hg]at h1;rw[hS]at h2;have hlt:fid<l.length:=by
  unfold j1 at h1;split at h1
  ·cases h1
  ·rename_i n hn;exact(Vi.1 hn).1
  ·cases h1
 have h3:=VU.1 hall fid (List.mem_range.2 hlt);simp only[h1]at h3;have hf:∃p,fns.find? (fun p=>p.1 == g)=some p:=by
  unfold ku at h2;cases hq:fns.find? (fun p=>p.1 == g)with
  |none=>rw[hq]at h2;cases h2
  |some p=>exact⟨p,rfl⟩
 obtain⟨p,hp⟩:=hf;rw[hp]at h3;simp only[Option.isNone_some,aaN,List.any_eq_true,VA,abC]at h3;obtain⟨r,hr,e1,e2⟩:=h3;subst e1;subst e2;have h4:=hsame r hr;rw[h4]at h2;injection h2 with h2
 subst h2;obtain⟨fn,h5,h6⟩:=(hok r hr).ok;obtain⟨h7,C,h8,h9,h10⟩:=OR h6;exact⟨fn,C,h5,h7,h8,h9,h10⟩
open Go.ChangeShapes Go.RowKit
def RPs (gid:Gid)(w:World)(cs:List Value)(vs:List V):Prop:=
 cs.length=vs.length/\∀(i:Nat) (x:Value) (c:V),cs[i]?=some x->vs[i]?=some c->RP gid w (fun _=>False) x c
section
variable {H : Type} {enc : TypeId × Value → H} {P : Program} {w : World} {gid : Gid}
theorem RPs.nil : RPs gid w [] []:=⟨rfl,by simp⟩
theorem RPs.one {x:Value}{c:V}(h:RP gid w (fun _=>False) x c):RPs gid w [x] [c]:=by
 refine⟨rfl,fun i y d a b=>?_⟩;cases i with
 |zero=>simp at a b;subst a;subst b;exact h
 |succ i=>simp at a
theorem RPs.append {a b:List Value}{c d:List V}(h:RPs gid w a c)(k:RPs gid w b d):RPs gid w (a++b) (c++d):=by
 refine⟨by simp[h.1,k.1],fun i x y e f=>?_⟩;by_cases hi:i<a.length
 ·rw[Vr hi]at e;rw[Vr (by rw[<-h.1];exact hi)]at f;exact h.2 i x y e f
 ·rw[VD (by omega)]at e;rw[VD (by rw[<-h.1];omega),<-h.1]at f;exact k.2 _ x y e f
def Rd (enc:TypeId × Value->H)(P:Program)(w:World)(gid:Gid)(t:TypeId)(Q:V->Prop):Prop:=
 ∀(fuel:Nat) (cs:List Value) (d:DataW H) (ps:List MemPlace),DataW.trod enc P w 0 (fun _=>true) true fuel t cs=some (d,ps)->∃v,Q v/\v.isTup=false/\RPs gid w cs v.cells
theorem Rd.mono {t:TypeId}{Q b:V->Prop}(h:Rd enc P w gid t Q)(i:∀v,Q v->b v):Rd enc P w gid t b:=fun a cs d ps e=>by
 obtain⟨v,c,f,g⟩:=h a cs d ps e;exact⟨v,i v c,f,g⟩
theorem LA {t:TypeId}(e:P.underlying t=some .bool):Rd enc P w gid t (fun v=>∃b,v=.bool b):=by
 intro a cs d ps h;cases a with
 |zero=>cases h
 |succ a=>
  unfold DataW.trod at h;rw[e]at h;simp only at h;split at h<;>rename_i c<;>try(cases c;done)
  ·exact⟨_,⟨_,rfl⟩,rfl,.one (.bool _)⟩
  all_goals(try(simp at c;done))
  cases h
theorem rZ {t:TypeId}{k:IntKind}(f:P.underlying t=some (.int k)):Rd enc P w gid t (fun v=>∃n,v=.int k n/\k.min<=n/\n<=k.max):=by
 intro a cs d ps h;cases a with
 |zero=>cases h
 |succ a=>
  unfold DataW.trod at h;rw[f]at h;simp only at h;split at h<;>rename_i b<;>try(cases b;done)
  ·injection b with b;injection b with b
   subst b;split at h
   ·rename_i e;obtain⟨rfl,c⟩:=e;simp only[Lit.wf,VA,VT]at c;exact⟨_,⟨_,rfl,c.1,c.2⟩,rfl,.one (.int _ _)⟩
   ·cases h
  all_goals(try(simp at b;done))
  cases h
theorem Vd {e g:Type}{f:e->Option g}:∀{l:List e} {r:List g},l.mapM f=some r->l.length=r.length/\∀(i:Nat) (a:e) (b:g),l[i]?=some a->r[i]?=some b->f a=some b:=by
 intro l;induction l with
 |nil=>intro r h;simp at h;subst h;exact⟨rfl,by simp⟩
 |cons x q p=>
  intro r h;rw[aaz]at h;simp only[abw,Vz,Option.pure_def,abI]at h;obtain⟨y,m,s,n,o⟩:=h;subst o;obtain⟨j,k⟩:=p n;refine⟨by simp[j],fun i a b c d=>?_⟩;cases i with
  |zero=>simp at c d;subst c;subst d;exact m
  |succ i=>exact k i a b (by simpa using c) (by simpa using d)
theorem q3i {e:Type}{R:Nat->e->Prop}:∀(n:Nat),(∀i,i<n->∃a,R i a)->∃l:List e,l.length=n/\∀(i:Nat) (a:e),l[i]?=some a->R i a
 |0,_=>⟨[],rfl,by simp⟩
 |n+1,h=>by
  obtain⟨l,f,g⟩:=q3i (R:=R) n (fun i hi=>h i (by omega));obtain⟨a,j⟩:=h n (by omega);refine⟨l++[a],by simp[f],fun i b c=>?_⟩;by_cases hi:i<l.length
  ·rw[Vr hi]at c;exact g i b c
  ·have d:i=n:=by
    have:=(Vi.1 c).1;simp at this;omega
   subst d;rw[VD (by omega)]at c;simp[f]at c;subst c;exact j
theorem Km {a:Addr}{v:Value}(h:w.cell? a=some v):a.block<w.heap.size/\a.spot=none:=by
 unfold World.cell? at h;split at h
 ·rename_i c e fr f;split at h
  ·cases h
  ·rename_i d;exact⟨(Array.getElem?_eq_some_iff.1 f).1,by cases b:a.spot<;>simp[b]at d ⊢⟩
 ·cases h
theorem yO {a:Addr}(h:a.spot=none)(n:Nat):a.add n=⟨a.block,a.off+n,none⟩:=by
 unfold Addr.add;split
 ·rename_i e;subst e;cases a;simp at h;subst h;rfl
 ·rfl
theorem zN {t e:TypeId}{z:Nat}{Q:V->Prop}(ht:P.underlying t=some (.slice e))(hz:P.cellsOf e=z)(h0:0<z)(hQ:Rd enc P w gid e Q)(y:∀v,Q v->v.cells.length=z) :
 Rd enc P w gid t (fun v=>∃l:List V,v=.sl l/\(∀x ∈ l,Q x)/\l.length<=maxLen):=by
 intro k cs d ps h;cases k with
 |zero=>cases h
 |succ k=>
  unfold DataW.trod at h;rw[ht]at h;simp only at h;split at h<;>rename_i r<;>try(cases r;done)
  all_goals(try(simp at r;done))
  ·exact⟨.sl [],⟨[],rfl,by simp,by simp⟩,rfl,.one .sl0⟩
  ·rename_i a len cap;injection r with r;injection r with r
   subst r;split at h
   ·rename_i hc;simp only[Vz,VV]at h;obtain⟨elems,h2,S,h3,h4⟩:=h;obtain⟨Y,Z⟩:=Vd h2;simp at Y;have q:∀i,i<len->∃b v,(Q v/\v.isTup=false/\v.cells.length=z)/\RPs gid w b v.cells/\b.length=z/\∀j x,b[j]?=some x->w.cell? ((a.add (i*z)).add j)=some x:=by
     intro i hi;have G:=Z i i (elems[i]'(by omega)) (by simp[hi]) (k9 _);obtain⟨b,o,u⟩:=Vz.1 G;obtain⟨v,O,q2,q3⟩:=hQ k b _ _ u;have D:=y v O;unfold World.cells? at o;rw[Vh (Xa _),hz]at o;obtain⟨M,m2⟩:=Vd o;simp at M;refine⟨b,v,⟨O,q2,D⟩,q3,M.symm,fun j x m=>?_⟩;have p:j<z:=by rw[M];exact(Vi.1 m).1
     exact m2 j j x (by simp[p]) m
    have s:0<len->a.spot=none/\a.block<w.heap.size:=by
     intro hp;obtain⟨b,v,_,_,J,I⟩:=q 0 hp;have N:=I 0 (b[0]'(by omega)) (k9 _);have W:(a.add (0*z)).add 0=a:=by simp[Addr.add]
     rw[W]at N;obtain⟨T,U⟩:=Km N;exact⟨U,T⟩
    have L:∀i,i<len->∃v,(Q v/\v.isTup=false/\v.cells.length=z)/\a.spot=none/\a.block<w.heap.size/\∃f:Nat->Value,∀(j:Nat) (c:V),v.cells[j]?=some c->w.cell? ⟨a.block,a.off+(i*z+j),none⟩=some (f j)/\RP gid w (fun _=>False) (f j) c:=by
     intro i hi;obtain⟨B,F⟩:=s (by omega);obtain⟨b,v,hv,K,J,I⟩:=q i hi;refine⟨v,hv,B,F,fun j=>(b[j]?).getD Go.undef,fun j c m=>?_⟩;have p:j<z:=by rw[<-hv.2.2];exact(Vi.1 m).1
     have n:b[j]?=some (b[j]'(by omega)):=k9 _;have g:=I j _ n;refine⟨?_,?_⟩
     ·simp only[n,Xd];rw[<-g];rw[yO B,yO rfl,Yg]
     ·simp only[n,Xd];exact K.2 j _ c n m
    obtain⟨l,l1,E⟩:=q3i len L;have hF:∃f:Nat->Nat->Value,∀(i:Nat) (e:V) (j:Nat) (c:V),l[i]?=some e->e.cells[j]?=some c->w.cell? ⟨a.block,a.off+(i*z+j),none⟩=some (f i j)/\RP gid w (fun _=>False) (f i j) c:=by
     refine⟨fun i j=>(w.cell? ⟨a.block,a.off+(i*z+j),none⟩).getD Go.undef,fun i e j c hi m=>?_⟩;obtain⟨_,_,_,f,C⟩:=E i e hi;obtain⟨o,u⟩:=C j c m;refine⟨by simp only[o,Xd],?_⟩;simp only[o,Xd];exact u
    obtain⟨f,C⟩:=hF;have any:l≠[]->a.spot=none/\a.block<w.heap.size:=by
     intro A;cases D:l with
     |nil=>exact absurd D A
     |cons x xs=>
      obtain⟨_,o,u,_⟩:=E 0 x (by rw[D];rfl);exact⟨o,u⟩
    refine⟨.sl l,⟨l,rfl,fun x hx=>?_,?_⟩,rfl,.one ?_⟩
    ·obtain⟨i,hi⟩:=Wa hx;exact(E i x hi).1.1
    ·omega
    ·exact .sl a len cap z l f l1.symm (fun A=>(any A).1) (fun _ h=>h) (fun A=>(any A).2) hc.2.1 (fun i e hi=>(E i e hi).1.2.2) (fun i e j c hi m=>(C i e j c hi m).1) (fun i e j c hi m=>(C i e j c hi m).2)
   ·cases h
  ·cases h
theorem A2 {j:Nat}:∀(c:List Field) (d:List (V->Prop)) (cs:List Value) (off:Nat) (t:List (DataW H × List MemPlace)),
 c.length=d.length->(∀(i:Nat) (f:Field) (Q:V->Prop),c[i]?=some f->d[i]?=some Q->Rd enc P w gid f.type Q) ->
 (c.foldl (fun(o:Option Nat) f=>o.bind fun o=>if f.offset=o then some (o+P.cellsOf f.type)else none) (some off)=some cs.length)->off<=cs.length ->
 (c.mapM fun f=>DataW.trod enc P w 0 (fun _=>true) true j f.type ((cs.drop f.offset).take (P.cellsOf f.type)))=some t ->
 ∃r:List V,r.length=d.length/\(∀(i:Nat) (v:V) (Q:V->Prop),r[i]?=some v->d[i]?=some Q->Q v/\v.isTup=false)/\RPs gid w (cs.drop off) (r.flatMap V.cells)
 | [],d,cs,off,t,m,_,a,_,_=>by
  simp at a m;refine⟨[],by simp[m],by simp,?_⟩;rw[a];simp;exact .nil
 |f :: c,d,cs,off,t,m,y,a,C,h=>by
  cases d with
  |nil=>simp at m
  |cons Q d=>
   simp only[aap,V3]at a;split at a
   ·rename_i D;rw[aaz]at h;simp only[abw,Vz,Option.pure_def,abI]at h;obtain⟨x,z,L,A,M⟩:=h;have grow:∀(c:List Field) (o n:Nat),c.foldl (fun(o:Option Nat) f=>o.bind fun o=>if f.offset=o then some (o+P.cellsOf f.type)else none) (some o)=some n->o<=n:=by
     intro c;induction c with
     |nil=>intro o n h;simp at h;omega
     |cons g k q=>
      intro o n h;simp only[aap,V3]at h;split at h
      ·have:=q _ _ h;omega
      ·have b:∀(k:List Field),k.foldl (fun(o:Option Nat) f=>o.bind fun o=>if f.offset=o then some (o+P.cellsOf f.type)else none) none=none:=by
        intro k;induction k with
        |nil=>rfl
        |cons _ _ q=>simpa using q
       rw[b]at h;cases h
    have p:=grow c _ _ a;obtain⟨v,E,F,G⟩:=y 0 f Q rfl rfl j _ _ _ z;obtain⟨r,I,J,K⟩:=A2 c d cs (off+P.cellsOf f.type) L (by simpa using m) (fun i g R B l=>y (i+1) g R (by simpa using B) (by simpa using l)) a p A;refine⟨v :: r,by simp[I],fun i u R s l=>?_,?_⟩
    ·cases i with
     |zero=>simp at s l;subst s;subst l;exact⟨E,F⟩
     |succ i=>exact J i u R (by simpa using s) (by simpa using l)
    ·rw[Xp];have e:cs.drop off=(cs.drop f.offset).take (P.cellsOf f.type)++cs.drop (off+P.cellsOf f.type):=by
      rw[D,<-Wj];exact(Xy _ _).symm
     rw[e];exact G.append K
   ·have b:∀(k:List Field),k.foldl (fun(o:Option Nat) f=>o.bind fun o=>if f.offset=o then some (o+P.cellsOf f.type)else none) none=none:=by
     intro k;induction k with
     |nil=>rfl
     |cons _ _ q=>simpa using q
    rw[b]at a;cases a
theorem PD {t:TypeId}{e:Array Field}{z:Nat}(c:List (V->Prop))(q:P.underlying t=some (.struct e))(hz:P.cellsOf t=z)(n:e.toList.length=c.length)
 (m:∀(i:Nat) (f:Field) (Q:V->Prop),e.toList[i]?=some f->c[i]?=some Q->Rd enc P w gid f.type Q)
 (j:e.toList.foldl (fun(o:Option Nat) f=>o.bind fun o=>if f.offset=o then some (o+P.cellsOf f.type)else none) (some 0)=some z) :
 Rd enc P w gid t (fun v=>∃b:List V,v=.agg (b.flatMap V.cells)/\b.length=c.length/\∀(i:Nat) (v:V) (Q:V->Prop),b[i]?=some v->c[i]?=some Q->Q v):=by
 intro a cs d ps h;cases a with
 |zero=>cases h
 |succ a=>
  unfold DataW.trod at h;rw[q]at h;simp only at h;split at h
  ·rename_i g;rw[hz]at g;obtain⟨u,l,x⟩:=VV.1 h;obtain⟨b,r,s,k⟩:=A2 e.toList c cs 0 u n m (by rw[g];exact j) (Xa _) l;exact⟨.agg (b.flatMap V.cells),⟨b,rfl,r,fun i v Q hv p=>(s i v Q hv p).1⟩,rfl,by simp only[aaA]at k;exact k⟩
  ·cases h
theorem RPs.get {μ:bp}{cs:List Value}{vs:List V}(h:RPs gid w cs vs):∀(i:Nat) (x:Value) (c:V),cs[i]?=some x->vs[i]?=some c->RC gid w (fun _=>False) μ x c:=fun i x c b a=>.p (h.2 i x c b a)
theorem Rd.struct {μ:bp}{t:TypeId}{Q:V->Prop}{m:Array Field}{r:Reach}{e:Nat}(n:Rd enc P w gid t Q)(p:P.underlying t=some (.struct m))(g:∀a,Q a->∃cs,a=.agg cs){v:Value}{d:DataW H}{ps:List MemPlace}
 (h:DataW.Trod enc P w 0 (fun _=>true) true t v d ps) (b:Value.okWide P w r e t v):∃a,Q a/\R gid w (fun _=>False) μ v a:=by
 obtain⟨f,h⟩:=h;unfold Value.okWide at b;rw[p]at b;obtain⟨cs,rfl,_⟩:=b;obtain⟨a,k,_,l⟩:=n f _ d ps h;obtain⟨j,rfl⟩:=g a k;exact⟨_,k,.agg cs j (by have:=l.1;simp only[Value.cells,Array.length_toList]at this;exact this) fun i x c q o=>.p (l.2 i x c (by simpa[Value.cells]using q) o)⟩
theorem Rd.cell {μ:bp}{t:TypeId}{Q:V->Prop}(g:Rd enc P w gid t Q)(b:∀a,Q a->a.isCell=true){v:Value}{d:DataW H}{ps:List MemPlace}
 (h:DataW.Trod enc P w 0 (fun _=>true) true t v d ps) (hv:v.cells=#[v]):∃a,Q a/\R gid w (fun _=>False) μ v a:=by
 obtain⟨c,h⟩:=h;obtain⟨a,e,_,f⟩:=g c _ d ps h;rw[hv,V.cells_cell (b a e)]at f;exact⟨a,e,.c (.p (f.2 0 v a rfl rfl))⟩
theorem Bf {t e:TypeId}{r:Reach}{a:Nat}(b:P.underlying t=some (.slice e)){v:Value}(h:Value.okWide P w r a t v):v.cells=#[v]:=by
 unfold Value.okWide at h;rw[b]at h;simp only[Cell.okWide,b,Cell.ok]at h;cases v<;>first|rfl|exact h.elim
theorem Lj {t:TypeId}{k:IntKind}{r:Reach}{a:Nat}(b:P.underlying t=some (.int k)){v:Value}(h:Value.okWide P w r a t v):v.cells=#[v]:=by
 unfold Value.okWide at h;rw[b]at h;simp only[Cell.okWide,b,Cell.ok]at h;cases v<;>first|rfl|exact h.elim
theorem Y1 (i:laidOutB P=true){W g:World}{k:Nat->Bool}:∀{e:List TypeId} {vs:List Value} {c:List (DataW H)} {ps:List MemPlace},(∀t ∈ e,P.readableRec t=true/\t<P.types.size) ->
 DataW.TrodAll enc P W 0 (fun _=>true) true e vs c ps->(∀p ∈ ps,W.sameAt g p)->(∀p ∈ ps,k p.block=true)->DataW.TrodAll enc P g 0 k true e vs c ps
 | [],vs,c,ps,_,h,_,_=>by
  obtain⟨rfl,rfl,rfl⟩:=trodAll_nil h;exact h
 |t :: e,vs,c,ps,f,h,j,b=>by
  obtain⟨v,r,d,l,p,q,rfl,rfl,rfl,m,n⟩:=trodAll_cons h;exact⟨p,q,WideElems.Trod_stays i (f t (by simp)).1 (f t (by simp)).2 m (fun x a=>j x (XI _ a)) (fun x a=>b x (XI _ a)),
   Y1 i (fun u o=>f u (by simp[o])) n (fun x a=>j x (XV _ a)) (fun x a=>b x (XV _ a)),rfl⟩
theorem Px {f:Func}{s:ChangeSpec}{dx fresh a i:Bool}{W l:World}{args:Array Value}{e k:List (DataW H)}{before:List MemPlace}{tb:TypeId}
 (K:laidOutB P=true) (d:s.vars=[]) (M:∀t ∈ f.params.toList,P.readableRec t=true/\t<P.types.size) (c:f.resultTypes=#[tb]) (r:P.underlying tb=some .bool)
 (j:(s.fn H (e++k)).results=[.lit (.bool true)]/\(s.fn H (e++k)).args=e/\(s.fn H (e++k)).vars=[])
 (y:DataW.Whole enc P f.params.toList s.vars dx W args.toList e k before) (z:Below W.heap.size W l) :
 s.post enc P f dx fresh a i W args (.bool true) l:=by
 have g:=y.lt;have o:=y;obtain⟨p,q,G,v,rfl,hz,E⟩:=y;rw[d]at v;have⟨L,J⟩:q=[]/\k=[]:=by
  cases k with
  |nil=>exact⟨v,rfl⟩
  |cons _ _=>exact v.elim
 subst L;subst J;simp only[XB]at o hz E g;have m:∀h:Nat->Bool,(∀x ∈ p,h x.block=true)->DataW.TrodAll enc P l 0 h true f.params.toList args.toList e p:=fun h B=>
  Y1 K M G (fun x u=>z.same (g x u)) B
 have A:(Value.bool true).resultList f.resultTypes.size=[.bool true]:=by rw[c];rfl
 have C:∀(b:Nat) (h:Nat->Bool) (D:Bool),DataW.TrodAll enc P l b h D f.resultTypes.toList ((Value.bool true).resultList f.resultTypes.size) (s.fn H (e++[])).results []:=by
  intro b h D;rw[j.1,A,c];exact trodAll_mk1 (shut_bool r true)
 have n:∀(h:Nat->Bool),DataW.TrodVars enc P l h s.vars (s.fn H (e++[])).vars []:=by
  intro h;rw[j.2.2,d];rfl
 refine⟨e,[],p,[],p,[],o,C _ _ _,by rw[j.2.1];exact m _ (fun x u=>by simpa using g x u),n _,z.frame _,fun _=>⟨?_,?_⟩⟩
 ·exact ok_one c rfl (okWide_bool_mk r true)
 ·refine⟨_,_,([]++p)++[],⟨[]++p,[],trodAll_append (m _ (fun _ _=>rfl)) (C _ _ _),n _,rfl,?_,?_⟩,?_⟩
  ·intro b off F;rw[z.frozen (p:=⟨b,off,none⟩) (g (.cell b off) (by simpa using F))];exact hz b off (by simpa using F)
  ·intro I;simpa using E I
  ·intro x u _;simpa using u
theorem Ph {T:Tab}{S:AProg}(seat:Seat T S){g fid:Nat}(l:T.gid fid=some g){args:List V}(i:Ev S (.call g args []) (.ret (.bool true) [])){W:World}{vs:List Value}
 (n:Rs T.gid W (fun _=>False) (fun _=>none) vs args) (tb:Tabs T.gid W fun _=>False):Calls T.P fid vs.toArray W fun e f=>e=.returned (.bool true)/\Below W.heap.size W f:=by
 have o:Sim T.gid W (fun _=>False) (fun _=>none) []:=⟨(by intro b x h;cases h),(by intro b r c a z d t h;cases h),(by intro b c a z k h;cases h),tb⟩
 obtain⟨_,h⟩:=uA seat i;obtain⟨fn,_,_,_,h⟩:=h fid l;refine(h W _ _ vs o n).mono fun e f j=>?_
 obtain⟨s,q,p,rfl,st,hv⟩:=j;refine⟨by rw[hv.inv_bool],st.os,st.tape,st.output,st.size,fun k m=>st.frame k m ?_⟩;intro b a z h;cases h
end
