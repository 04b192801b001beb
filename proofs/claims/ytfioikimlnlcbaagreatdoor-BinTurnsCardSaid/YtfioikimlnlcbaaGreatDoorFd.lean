/- Parts of the proof: FpDraw, FpDrawn, FpDrawn2, FpFin, FpSound, FpMain, FpSeat, FpGlue. -/
import Derived.LoopN
import Derived.ProofKit
import Derived.Test.YtfioikimlnlcbaaGreatDoorFc
import Derived.Test.YtfioikimlnlcbaaGreatDoorF0
namespace Go.Abs
variable {T : Tab} {gid : Gid} {w w' w0 : World} {M M' M0 : Nat → Prop} {μ μ' μ0 μi : Inj} {H Hi Hi1 He H0 : Heap} {n0 : Nat}
def cutM (n:Nat)(μ:Inj):Inj:=fun b=>if b<n then μ b else none
theorem qb4 {n:Nat}{μ:Inj}:∀b x,cutM n μ b=some x->μ b=some x:=fun b x h=>by
 unfold cutM at h;split at h
 ·exact h
 ·cases h
theorem qnd {n:Nat}{μ:Inj}:∀b x,cutM n μ b=some x->b<n:=fun b x h=>by
 unfold cutM at h;split at h
 ·assumption
 ·cases h
theorem qf0 {A B:Heap}(h:A <+: B){b:Nat}(hb:b<A.length):B[b]?=A[b]?:=by
 obtain⟨C,rfl⟩:=h;rw[List.getElem?_append_left hb]
theorem qh7 {A B:Heap}(h:A <+: B){b:Nat}{x:Option Blk}(hb:A[b]?=some x):B[b]?=some x:=by
 rw[qf0 h (List.getElem?_eq_some_iff.1 hb).1];exact hb
theorem qv4 {A B:Heap}(h:A <+: B):A.length<=B.length:=h.length_le
theorem Sim.restrict (hs:Sim gid w M μ He)(hp:Hi <+: He)(hl:LowH Hi.length μ He):Sim gid w M (cutM Hi.length μ) Hi:=by
 refine⟨fun b x h=>qnd b x h,fun b1 b2 c o z o' z' h1 h2 ⟨k1,a1⟩ ⟨k2,a2⟩=>hs.inj b1 b2 c o z o' z' (qb4 _ _ h1) (qb4 _ _ h2) ⟨k1,qh7 hp a1⟩ ⟨k2,qh7 hp a2⟩,fun b c o z k h1 h2=>?_,hs.tab⟩;have hk:=hs.blk b c o z k (qb4 _ _ h1) (qh7 hp h2);obtain⟨arr,e,l1,l2,l3⟩:=hk.lay;have hlow:=hl b k (qnd _ _ h1) (by rw[qb4 _ _ h1];simp) (qh7 hp h2);refine⟨hk.hz,hk.hM,hk.hF,⟨arr,e,l1,l2,fun i el hi=>?_⟩,hk.pur⟩;obtain⟨h3,h4,h5⟩:=l3 i el hi;refine⟨h3,h4,fun j cv hj=>?_⟩;obtain⟨v,hv,hr⟩:=h5 j cv hj;exact⟨v,hv,hr.low (Keep.refl w M) (Shape.refl w) (n:=Hi.length) (fun b x hb hx=>by unfold cutM;rw[if_pos hb];exact hx) (hlow el (List.mem_of_getElem? hi) cv (List.mem_of_getElem? hj))⟩
theorem qrf {N b:Nat}{k:Blk}:¬(List.replicate N (none:Option Blk))[b]?=some (some k):=by
 intro h;rw[List.getElem?_replicate]at h;split at h<;>cases h
theorem Sim.dead {N:Nat}(tb:Tabs gid w M)(hd:∀b x,μ b=some x->b<N):Sim gid w M μ (List.replicate N none):=
 ⟨fun b x h=>by simpa using hd b x h,fun _ _ _ _ _ _ _ _ _ ⟨_,a⟩ _=>absurd a qrf,fun _ _ _ _ _ _ h=>absurd h qrf,tb⟩
theorem Step.of_dead {N:Nat}(hs:Sim gid w M μ He)(st:Step gid n0 w M μi (List.replicate N none) w' M' μ' (List.replicate N none)):Step gid n0 w M μ He w' M' μ He:=by
 have fr:∀c,c<w.heap.size->w'.heap[c]?=w.heap[c]?:=fun c hc=>st.frame c hc fun b _ _ _ ⟨k,hk,_⟩=>qrf hk
 have kp:Keep w M w' M':=⟨st.size,fun c hc _=>fr c hc,fun c hc hm=>(st.sub c hm).resolve_right (by omega)⟩
 have km:∀c,c<w.heap.size->M c->M' c:=fun c hc hm=>st.keepM c hc hm fun b _ _ _ ⟨k,hk,_⟩=>qrf hk
 refine⟨⟨hs.dom,hs.inj,fun b c o z k h1 h2=>?_,hs.tab.keep kp⟩,fun _ _=>rfl,Nat.le_refl _,st.size,fun c hc _=>fr c hc,st.shape,st.sub,fun c hc hm _=>km c hc hm,fun b c o z hb h=>absurd (hs.dom b _ h) (by omega),
  fun _ _ h=>h,fun _ _ h=>h,fun _ _ h=>h,st.os,st.tape,st.output⟩
 have hk:=hs.blk b c o z k h1 h2;exact hk.mono kp st.shape (fun _ _ h=>h) (fr c hk.lt) fun hw=>km c hk.lt (hk.hM hw)
theorem Step.extend (hs:Sim gid w M μ H)(hp:H <+: He):Step gid n0 w M μ H w M μ He:=by
 have al:∀b x,μ b=some x->He[b]?=H[b]?:=fun b x h=>qf0 hp (hs.dom b x h)
 refine⟨⟨fun b x h=>Nat.lt_of_lt_of_le (hs.dom b x h) (qv4 hp),fun b1 b2 c o z o' z' h1 h2 ⟨k1,a1⟩ ⟨k2,a2⟩=>hs.inj b1 b2 c o z o' z' h1 h2 ⟨k1,by rw[<-al b1 _ h1];exact a1⟩ ⟨k2,by rw[<-al b2 _ h2];exact a2⟩,
  fun b c o z k h1 h2=>hs.blk b c o z k h1 (by rw[<-al b _ h1];exact h2),hs.tab⟩,fun _ _=>rfl,qv4 hp,Nat.le_refl _,fun _ _ _=>rfl,Shape.refl w,fun _ h=>.inl h,fun _ _ h _=>h,
  fun b c o z hb h=>absurd (hs.dom b _ h) (by omega),fun b hb ⟨k,h1,h2⟩=>⟨k,by rw[<-qf0 hp hb];exact h1,h2⟩,fun b hb ⟨k,h1⟩=>⟨k,by rw[<-qf0 hp hb];exact h1⟩,
  fun n _ hl b k h1 h2 h3=>?_,rfl,rfl,rfl⟩
 obtain⟨x,hx⟩:=Option.ne_none_iff_exists'.1 h2;exact hl b k h1 h2 (by rw[<-al b x hx];exact h3)
theorem Step.merge (A:Step gid n0 w0 M0 μ0 H0 w M μ He)(h0i:H0.length<=Hi.length)(hn:n0<=H0.length)(hp:Hi <+: Hi1)(hp1:Hi1 <+: He)
 (hgap:∀b,Hi.length<=b->b<Hi1.length->μ b=none) (hsr:Sim gid w M (cutM Hi.length μ) Hi) (B:Step gid n0 w M (cutM Hi.length μ) Hi w' M' μi Hi1) :
 Step gid n0 w0 M0 μ0 H0 w' M' (fun b=>if b<Hi1.length then μi b else μ b) He:=by
 have hpe:Hi <+: He:=hp.trans hp1;have hs:=A.sim;have hlt:Hi.length<=Hi1.length:=qv4 hp;have i_old:∀b,b<Hi.length->μi b=μ b:=fun b hb=>by rw[B.ext b hb];unfold cutM;rw[if_pos hb]
 have kp:Keep w M w' M':=B.keep hsr;have mm:∀b x,μ b=some x->(if b<Hi1.length then μi b else μ b)=some x:=by
  intro b x hb;split
  ·rename_i h1;by_cases h2:b<Hi.length
   ·rw[i_old b h2];exact hb
   ·rw[hgap b (by omega) h1]at hb;cases hb
  ·exact hb
 have freshI:∀b c o z,Hi.length<=b->μi b=some (c,o,z)->alive He b->w.heap.size<=c:=by
  intro b c o z hb hm ⟨k,hk⟩;rcases B.fresh b c o z hb hm with h1|⟨b0,o0,z0,h1,⟨k0,h2,h3⟩⟩
  ·exact h1
  ·have hb1:b<Hi1.length:=B.sim.dom b _ hm;have:=B.sim.inj b0 b c o0 z0 o z (by rw[B.ext b0 (qnd _ _ h1)];exact h1) hm ⟨k0,qh7 hp h2⟩ ⟨k,by rw[<-qf0 hp1 hb1];exact hk⟩;have:=qnd _ _ h1;omega
 have quiet:∀c,c<w0.heap.size->(∀b o z,μ0 b=some (c,o,z)->¬wrAt H0 b)->∀b o z,cutM Hi.length μ b=some (c,o,z)->¬wrAt Hi b:=by
  intro c hc hq b o z hb ⟨k,hk,hw⟩;have hb':=qb4 _ _ hb;by_cases hl:b<H0.length
  ·exact hq b o z (by rw[<-A.ext b hl];exact hb') (A.wrmono b hl ⟨k,qh7 hpe hk,hw⟩)
  ·rcases A.fresh b c o z (by omega) hb' with h1|⟨b0,o0,z0,h1,h2⟩
   ·omega
   ·exact hq b0 o0 z0 h1 h2
 refine⟨⟨?_,?_,?_,B.sim.tab⟩,?_,A.len,Nat.le_trans A.size B.size,?_,A.shape.trans B.shape,?_,?_,?_,A.wrmono,A.alv,?_,B.os.trans A.os,B.tape.trans A.tape,B.output.trans A.output⟩
 ·intro b x hx;have:=qv4 hp1;split at hx
  ·omega
  ·exact hs.dom b x hx
 ·intro b1 b2 c o z o' z' h1 h2 a1 a2;have side:∀b b' c o z o' z',b<Hi1.length->Hi1.length<=b'->μi b=some (c,o,z)->μ b'=some (c,o',z')->alive He b->alive He b'->b=b':=by
   intro b b' c o z o' z' g1 g2 g3 g4 a a';by_cases g5:b<Hi.length
   ·rw[i_old b g5]at g3;exact hs.inj b b' c o z o' z' g3 g4 a a'
   ·have:=freshI b c o z (by omega) g3 a;obtain⟨k',hk'⟩:=a';have:=(hs.blk b' c o' z' k' g4 hk').lt;omega
  split at h1<;>split at h2
  ·rename_i g1 g2;obtain⟨k1,a1⟩:=a1;obtain⟨k2,a2⟩:=a2;exact B.sim.inj b1 b2 c o z o' z' h1 h2 ⟨k1,by rw[<-qf0 hp1 g1];exact a1⟩ ⟨k2,by rw[<-qf0 hp1 g2];exact a2⟩
  ·exact side b1 b2 c o z o' z' (by assumption) (by omega) h1 h2 a1 a2
  ·exact(side b2 b1 c o' z' o z (by assumption) (by omega) h2 h1 a2 a1).symm
  ·exact hs.inj b1 b2 c o z o' z' h1 h2 a1 a2
 ·intro b c o z k h1 h2;split at h1
  ·rename_i g1;have hk:=B.sim.blk b c o z k h1 (by rw[<-qf0 hp1 g1];exact h2);exact hk.mono (Keep.refl w' M') (Shape.refl w') (fun b' x hx=>by rw[if_pos (B.sim.dom b' x hx)];exact hx) rfl hk.hM
  ·rename_i g1;have hk:=hs.blk b c o z k h1 h2;have q:∀b' o' z',cutM Hi.length μ b'=some (c,o',z')->¬wrAt Hi b':=by
    intro b' o' z' hb' ⟨k',hk',_⟩;have:=hs.inj b' b c o' z' o z (qb4 _ _ hb') h1 ⟨k',qh7 hpe hk'⟩ ⟨k,h2⟩;have:=qnd _ _ hb';omega
   exact hk.mono kp B.shape mm (B.frame c hk.lt q) fun hw=>B.keepM c hk.lt (hk.hM hw) q
 ·intro b hb;rw[if_pos (by omega),i_old b (by omega),A.ext b hb]
 ·intro c hc hq;rw[B.frame c (Nat.lt_of_lt_of_le hc A.size) (quiet c hc hq),A.frame c hc hq]
 ·intro c hc;rcases B.sub c hc with h1|h1
  ·exact A.sub c h1
  ·exact .inr (Nat.le_trans A.size h1)
 ·intro c hc hm hq;exact B.keepM c (Nat.lt_of_lt_of_le hc A.size) (A.keepM c hc hm hq) (quiet c hc hq)
 ·intro b c o z hb h1;split at h1
  ·by_cases g2:b<Hi.length
   ·rw[i_old b g2]at h1;exact A.fresh b c o z hb h1
   ·rcases B.fresh b c o z (by omega) h1 with h3|⟨b0,o0,z0,h3,⟨k,hk,hw⟩⟩
    ·exact .inl (Nat.le_trans A.size h3)
    ·by_cases hl:b0<H0.length
     ·exact .inr ⟨b0,o0,z0,by rw[<-A.ext b0 hl];exact qb4 _ _ h3,A.wrmono b0 hl ⟨k,qh7 hpe hk,hw⟩⟩
     ·exact A.fresh b0 c o0 z0 (by omega) (qb4 _ _ h3)
  ·exact A.fresh b c o z hb h1
 ·intro n hn' hl b k h1 h2 h3;have h2:(if b<Hi1.length then μi b else μ b)≠none:=h2;rw[if_pos (by omega),i_old b (by omega)]at h2;exact A.low n hn' hl b k h1 h2 h3
theorem qmv (bits:List Nat):∀(after:List Edge) (s k:Nat),(after.foldl (fun s e=>if Region.binds .any e then s |||2^e.on |||bits.getD e.on 0 else s) s).testBit k=true ->
 s.testBit k=true\/∃e ∈ after,Region.binds .any e=true/\(k=e.on\/(bits.getD e.on 0).testBit k=true)
 | [],s,k,h=>.inl h
 |e :: after,s,k,h=>by
  rw[List.foldl_cons]at h;rcases qmv bits after _ k h with h1|⟨e',h1,h2,h3⟩
  ·split at h1
   ·rename_i hb;rw[Nat.testBit_or,Nat.testBit_or,Bool.or_eq_true,Bool.or_eq_true]at h1;rcases h1 with (h1|h1)|h1
    ·exact .inl h1
    ·refine .inr ⟨e,by simp,hb,.inl ?_⟩;rw[Nat.testBit_two_pow]at h1;simp at h1;exact h1.symm
    ·exact .inr ⟨e,by simp,hb,.inr h1⟩
   ·exact .inl h1
  ·exact .inr ⟨e',by simp[h1],h2,h3⟩
theorem qmx : ∀(l:List Oper) (acc:List Nat),∃r,qba l acc=acc++r/\r.length=l.length
 | [],acc=>⟨[],by simp[qba],rfl⟩
 |o :: l,acc=>by
  obtain⟨r,h1,h2⟩:=qmx l (acc++[qjn acc o.after.toList]);exact⟨qjn acc o.after.toList :: r,by rw[qba,h1];simp,by simp[h2]⟩
theorem qtu : ∀(l:List Oper) (acc:List Nat) (j:Nat) (o:Oper),l[j]?=some o ->
 ∃acc',(qba l acc).getD (acc.length+j) 0=qjn acc' o.after.toList/\acc'.length=acc.length+j/\∀i,i<acc.length+j->acc'.getD i 0=(qba l acc).getD i 0
 | [],acc,j,o,h=>by simp at h
 |x :: l,acc,0,o,h=>by
  simp at h;subst h;obtain⟨r,h1,h2⟩:=qmx l (acc++[qjn acc x.after.toList]);refine⟨acc,?_,by simp,fun i hi=>?_⟩
  ·rw[qba,h1];simp[List.getD]
  ·rw[qba,h1];simp only[List.getD,List.append_assoc];rw[List.getElem?_append_left (by omega)]
 |x :: l,acc,j+1,o,h=>by
  obtain⟨acc',h1,h2,h3⟩:=qtu l (acc++[qjn acc x.after.toList]) j o (by simpa using h);simp only[List.length_append,List.length_singleton]at h1 h2 h3;refine⟨acc',?_,by omega,fun i hi=>?_⟩
  ·rw[qba,show acc.length+(j+1)=acc.length+1+j by omega];exact h1
  ·rw[qba];exact h3 i (by omega)
theorem q0g {l:List Oper}{j k:Nat}{o:Oper}(hj:l[j]?=some o)(hd:qhc j o=true)(h:qb7 (qba l []) k j=true) :
 ∃e ∈ o.after.toList,Region.binds .any e=true/\e.on<j/\(k=e.on\/qb7 (qba l []) k e.on=true):=by
 obtain⟨acc',h1,h2,h3⟩:=qtu l [] j o hj;simp only[List.length_nil,Nat.zero_add]at h1 h2 h3;unfold qb7 at h;rw[h1]at h;rcases qmv acc' o.after.toList 0 k h with h4|⟨e,h4,h5,h6⟩
 ·simp at h4
 ·have hon:e.on<j:=by
   have:=List.all_eq_true.1 hd e h4;simp[h5]at this;exact this
  refine⟨e,h4,h5,hon,?_⟩;rcases h6 with h6|h6
  ·exact .inl h6
  ·right;unfold qb7;rw[<-h3 e.on hon];exact h6
def Closed (ops:List Oper)(D:Nat->Prop):Prop:=∀(i:Nat) (o:Oper),D i->ops[i]?=some o->∀e ∈ o.after.toList,Region.binds .any e=true->D e.on
theorem Closed.before {l:List Oper}{D:Nat->Prop}(hc:Closed l D)(hd:∀(i:Nat) (o:Oper),l[i]?=some o->qhc i o=true) :
 ∀(j:Nat),D j->j<l.length->∀k,qb7 (qba l []) k j=true->D k:=by
 intro j;induction j using Nat.strongRecOn with
 |_ j ih=>
  intro hj hlt k hk;have ho:=List.getElem?_eq_getElem hlt;obtain⟨e,h1,h2,h3,h4⟩:=q0g ho (hd j _ ho) hk;have hD:=hc j _ hj ho e h1 h2;rcases h4 with rfl|h4
  ·exact hD
  ·exact ih e.on h3 hD (by omega) k h4
theorem qh6 {l:List Oper}{D:Nat->Prop}(hc:Closed l D)(hd:∀(i:Nat) (o:Oper),l[i]?=some o->qhc i o=true){i:Nat}{o:Oper}(hi:l[i]?=some o)
 (hr:∀e ∈ o.after.toList,Region.binds .any e=true->D e.on):∀k,qb7 (qba l []) k i=true->D k:=by
 intro k hk;obtain⟨e,h1,h2,h3,h4⟩:=q0g hi (hd i o hi) hk;have hD:=hr e h1 h2;rcases h4 with rfl|h4
 ·exact hD
 ·have:i<l.length:=(List.getElem?_eq_some_iff.1 hi).1;exact hc.before hd e.on hD (by omega) k h4
end Go.Abs
namespace Go.Abs
variable {T : Tab}
def AtOp (T:Tab)(n0:Nat)(o:Oper)(ao:AOper)(E:Env)(H:Heap)(v:V)(H1:Heap):Prop:=
 (gd ao E=some false/\v=.undef/\H1=H) \/
 (gd ao E=some true/\OpSem T n0 o ao.op.reads E H v H1/\H.length<=H1.length/\(ao.sync=false->H <+: H1)/\(ao.op.loud=false->H1=H/\((∀Hc,OpSem T n0 o ao.op.reads E Hc v Hc)\/q2u T n0 o ao.op E H v)) /\
  (∀z x y av,ao.op=.storeN z x y av->∀t ∈ av,∀b i off,E t=.ptr b i off->H1[b]?=H[b]?) /\
  (isApp ao.op=true->∀(b:Nat) (k:Blk),b<H.length->H1[b]?=some (some k)->H[b]?=some (some k)))
structure Run (T:Tab)(n0:Nat)(ops:Array Oper)(l:List Oper)(al:List AOper)(Es:Nat->Env)(Hs:Nat->Heap)(vs:Nat->V):Prop where
 len:al.length=l.length
 link:∀(i:Nat) (o:Oper) (ao:AOper),l[i]?=some o->al[i]?=some ao->Link T ops o ao
 env:∀(i:Nat) (ao:AOper),al[i]?=some ao->Es (i+1)=put (Es i) ao.dst (vs i)
 at_:∀(i:Nat) (o:Oper) (ao:AOper),l[i]?=some o->al[i]?=some ao->AtOp T n0 o ao (Es i) (Hs i) (vs i) (Hs (i+1))
theorem Tr.run {n0:Nat}{ops:Array Oper}{l:List Oper}{al:List AOper}{E:Env}{H:Heap}{E':Env}{H':Heap}(h:Tr T n0 true ops l al E H E' H') :
 ∃Es Hs vs,Run T n0 ops l al Es Hs vs/\Es 0=E/\Hs 0=H/\Es l.length=E'/\Hs l.length=H':=by
 induction h with
 | @nil E H=>exact⟨fun _=>E,fun _=>H,fun _=>.undef,⟨rfl,by simp,by simp,by simp⟩,rfl,rfl,rfl,rfl⟩
 | @skip o ao os aos E H E' H' hl hg _ ih=>
  obtain⟨Es,Hs,vs,hr,h1,h2,h3,h4⟩:=ih;refine⟨fun i=>match i with|0=>E|i+1=>Es i,fun i=>match i with|0=>H|i+1=>Hs i,fun i=>match i with|0=>.undef|i+1=>vs i,⟨by simp[hr.len],?_,?_,?_⟩,rfl,rfl,h3,h4⟩
  ·intro i o' ao' ho ha;cases i with
   |zero=>simp at ho ha;subst ho;subst ha;exact hl
   |succ i=>exact hr.link i o' ao' (by simpa using ho) (by simpa using ha)
  ·intro i ao' ha;cases i with
   |zero=>simp at ha;subst ha;exact h1
   |succ i=>exact hr.env i ao' (by simpa using ha)
  ·intro i o' ao' ho ha;cases i with
   |zero=>simp at ho ha;subst ho;subst ha;exact .inl ⟨hg,rfl,h2⟩
   |succ i=>exact hr.at_ i o' ao' (by simpa using ho) (by simpa using ha)
 | @step o ao os aos E H v H1 E' H' hl hg sem len pre quiet spare kills _ ih=>
  obtain⟨Es,Hs,vs,hr,h1,h2,h3,h4⟩:=ih;refine⟨fun i=>match i with|0=>E|i+1=>Es i,fun i=>match i with|0=>H|i+1=>Hs i,fun i=>match i with|0=>v|i+1=>vs i,⟨by simp[hr.len],?_,?_,?_⟩,rfl,rfl,h3,h4⟩
  ·intro i o' ao' ho ha;cases i with
   |zero=>simp at ho ha;subst ho;subst ha;exact hl
   |succ i=>exact hr.link i o' ao' (by simpa using ho) (by simpa using ha)
  ·intro i ao' ha;cases i with
   |zero=>simp at ha;subst ha;exact h1
   |succ i=>exact hr.env i ao' (by simpa using ha)
  ·intro i o' ao' ho ha;cases i with
   |zero=>
    simp at ho ha;subst ho;subst ha;refine .inr ⟨hg,?_,?_,fun hs=>?_,fun hq=>?_,?_,?_⟩
    ·show OpSem T n0 o ao.op.reads E H v (Hs 0);rw[h2];exact sem
    ·show H.length<=(Hs 0).length;rw[h2];exact len
    ·show H <+: Hs 0;rw[h2];exact pre rfl hs
    ·show Hs 0=H/\_;rw[h2];exact quiet hq
    ·show ∀z x y av,ao.op=.storeN z x y av->∀t ∈ av,∀b i off,E t=.ptr b i off->(Hs 0)[b]?=H[b]?;rw[h2];exact spare
    ·show isApp ao.op=true->∀(b:Nat) (k:Blk),b<H.length->(Hs 0)[b]?=some (some k)->H[b]?=some (some k);rw[h2];exact kills
   |succ i=>exact hr.at_ i o' ao' (by simpa using ho) (by simpa using ha)
section
variable {n0 : Nat} {ops : Array Oper} {l : List Oper} {al : List AOper} {Es : Nat → Env} {Hs : Nat → Heap} {vs : Nat → V}
def dstAt (al:List AOper)(j:Nat):Option Nat:=(al[j]?).bind (·.dst)
def qgp (al:List AOper)(j:Nat):Prop:=∃ao,al[j]?=some ao/\ao.op.loud=true
def qqe (al:List AOper)(j:Nat):Prop:=∃ao,al[j]?=some ao/\ao.sync=true
theorem Run.mono (hr:Run T n0 ops l al Es Hs vs){i j:Nat}(h:i<=j)(hj:j<=l.length):(Hs i).length<=(Hs j).length:=by
 induction j with
 |zero=>have:i=0:=by omega
        subst this;exact Nat.le_refl _
 |succ j ih=>
  rcases Nat.lt_or_ge i (j+1)with h1|h1
  ·refine Nat.le_trans (ih (by omega) (by omega)) ?_;have ho:=List.getElem?_eq_getElem (show j<l.length by omega);have ha:=List.getElem?_eq_getElem (show j<al.length by rw[hr.len];omega);rcases hr.at_ j _ _ ho ha with ⟨_,_,h2⟩|⟨_,_,h2,_⟩
   ·rw[h2];exact Nat.le_refl _
   ·exact h2
  ·have:i=j+1:=by omega
   subst this;exact Nat.le_refl _
theorem Run.pre (hr:Run T n0 ops l al Es Hs vs){s:Nat}{i j:Nat}(hs:s<=i)(h:i<=j)(hj:j<=l.length)(hq:∀k,s<=k->k<j->qgp al k->¬qqe al k):Hs i <+: Hs j:=by
 induction j with
 |zero=>have:i=0:=by omega
        subst this;exact List.prefix_refl _
 |succ j ih=>
  rcases Nat.lt_or_ge i (j+1)with h1|h1
  ·refine(ih (by omega) (by omega) (fun k h1 h2=>hq k h1 (by omega))).trans ?_;have ho:=List.getElem?_eq_getElem (show j<l.length by omega);have ha:=List.getElem?_eq_getElem (show j<al.length by rw[hr.len];omega);rcases hr.at_ j _ _ ho ha with ⟨_,_,h2⟩|⟨_,_,_,h2,h3,_⟩
   ·rw[h2];exact List.prefix_refl _
   ·by_cases hl:(al[j]'(by rw[hr.len];omega)).op.loud=true
    ·apply h2;have:=hq j (by omega) (by omega) ⟨_,ha,hl⟩;cases hsy:(al[j]'(by rw[hr.len];omega)).sync with
     |false=>rfl
     |true=>exact absurd ⟨_,ha,hsy⟩ this
    ·rw[(h3 (by simpa using hl)).1];exact List.prefix_refl _
  ·have:i=j+1:=by omega
   subst this;exact List.prefix_refl _
theorem Run.val (hr:Run T n0 ops l al Es Hs vs)(t:Nat):∀m,m<=l.length ->
 (∃j,j<m/\dstAt al j=some t/\(∀j',j'<m->dstAt al j'=some t->j'<=j)/\Es m t=vs j)\/((∀j,j<m->dstAt al j≠some t)/\Es m t=Es 0 t)
 |0,_=>.inr ⟨by simp,rfl⟩
 |m+1,hm=>by
  have ha:=List.getElem?_eq_getElem (show m<al.length by rw[hr.len];omega);have he:=hr.env m _ ha;by_cases hd:dstAt al m=some t
  ·refine .inl ⟨m,by omega,hd,fun j' h1 _=>by omega,?_⟩;unfold dstAt at hd;rw[ha]at hd;simp only[Option.bind_some]at hd;rw[he,hd];simp[put,upd]
  ·have hsame:Es (m+1) t=Es m t:=by
    rw[he];unfold dstAt at hd;rw[ha]at hd;simp only[Option.bind_some]at hd;cases hq:(al[m]'(by rw[hr.len];omega)).dst with
    |none=>rfl
    |some d=>
     rw[hq]at hd;have:t≠d:=fun e=>hd (by rw[e])
     simp[put,upd,this]
   rcases hr.val t m (by omega)with ⟨j,h1,h2,h3,h4⟩|⟨h1,h2⟩
   ·refine .inl ⟨j,by omega,h2,fun j' h5 h6=>?_,by rw[hsame];exact h4⟩;rcases Nat.lt_or_ge j' m with h7|h7
    ·exact h3 j' h7 h6
    ·have:j'=m:=by omega
     subst this;exact absurd h6 hd
   ·refine .inr ⟨fun j h5 h6=>?_,by rw[hsame];exact h2⟩;rcases Nat.lt_or_ge j m with h7|h7
    ·exact h1 j h7 h6
    ·have:j=m:=by omega
     subst this;exact hd h6
theorem qaeo (al:List AOper)(n:Nat):∀(d s:Nat),n-s=d->s<=n->∃e,s<=e/\e<=n/\(∀k,s<=k->k<e->qgp al k->¬qqe al k)/\(e=n\/(e<n/\qgp al e/\qqe al e))
 |0,s,h,hs=>⟨s,Nat.le_refl _,hs,fun k h1 h2=>by omega,.inl (by omega)⟩
 |d+1,s,h,hs=>by
  by_cases hq:qgp al s/\qqe al s
  ·exact⟨s,Nat.le_refl _,hs,fun k h1 h2=>by omega,.inr ⟨by omega,hq.1,hq.2⟩⟩
  ·obtain⟨e,h1,h2,h3,h4⟩:=qaeo al n d (s+1) (by omega) (by omega);refine⟨e,by omega,h2,fun k h5 h6 hl hsy=>?_,h4⟩;rcases Nat.eq_or_lt_of_le h5 with h7|h7
   ·subst h7;exact hq ⟨hl,hsy⟩
   ·exact h3 k (by omega) h6 hl hsy
variable {w0 : World} {M0 : Nat → Prop} {μ0 : Inj}
structure HInv (T:Tab)(n0:Nat)(al:List AOper)(n:Nat)(Hs:Nat->Heap)(w0:World)(M0:Nat->Prop)(μ0:Inj)(D:Nat->Prop)(w:World)(M:Nat->Prop)(μ:Inj)(s e:Nat):Prop where
 se:s<=e
 en:e<=n
 lo:∀j,j<s->qgp al j->D j
 hi:∀j,e<=j->qgp al j->¬D j
 seg:∀k,s<=k->k<e->qgp al k->¬qqe al k
 last:e=n\/(e<n/\qgp al e/\qqe al e)
 step:Step T.gid n0 w0 M0 μ0 (Hs 0) w M μ (Hs e)
 dom:∀b x,μ b=some x->b<(Hs s).length\/∃j,s<=j/\j<e/\D j/\(Hs j).length<=b/\b<(Hs (j+1)).length
 low:∀k,s<=k->k<=e->LowH (Hs k).length μ (Hs e)
theorem HInv.begin (hr:Run T n0 ops l al Es Hs vs){D:Nat->Prop}{w:World}{M:Nat->Prop}{μ:Inj}{s:Nat}(hs:s<=l.length)(lo:∀j,j<s->qgp al j->D j)
 (hi:∀j,s<=j->qgp al j->¬D j) (st:Step T.gid n0 w0 M0 μ0 (Hs 0) w M μ (Hs s)):∃e,HInv T n0 al l.length Hs w0 M0 μ0 D w M μ s e:=by
 obtain⟨e,h1,h2,h3,h4⟩:=qaeo al l.length _ s rfl hs;refine⟨e,h1,h2,lo,fun j hj=>hi j (by omega),h3,h4,st.trans (Step.extend st.sim (hr.pre (Nat.le_refl _) h1 h2 h3)),fun b x hx=>.inl (st.sim.dom b x hx),fun k hk1 hk2 b kk hb hm hk el hel c hc=>?_⟩;obtain⟨⟨cc,o,z⟩,hx⟩:=Option.ne_none_iff_exists'.1 hm;have hbs:=st.sim.dom b _ hx;rw[qf0 (hr.pre (Nat.le_refl _) h1 h2 h3) hbs]at hk;obtain⟨arr,et,l1,l2,l3⟩:=(st.sim.blk b cc o z kk hx hk).lay;obtain⟨i,hi'⟩:=List.getElem?_of_mem hel;obtain⟨j,hj⟩:=List.getElem?_of_mem hc;obtain⟨v,_,hrc⟩:=(l3 i el hi').2.2 j c hj;exact(hrc.toLow (fun b x h=>st.sim.dom b x h)).mono (hr.mono hk1 (by omega))
def EInv (T:Tab)(al:List AOper)(n:Nat)(Es:Nat->Env)(Hs:Nat->Heap)(vs:Nat->V)(D:Nat->Prop)(tmps:Array Value)(w:World)(M:Nat->Prop)(μ:Inj):Prop:=
 ∀t,(∃j,j<n/\D j/\dstAt al j=some t/\(∀j',j'<n->D j'->dstAt al j'=some t->j'<=j)/\R T.gid w M (cutM (Hs (j+1)).length μ) (tmps.getD t Go.undef) (vs j)) \/
  ((∀j,j<n->D j->dstAt al j≠some t)/\R T.gid w M (cutM (Hs 0).length μ) (tmps.getD t Go.undef) (Es 0 t))
theorem q99 {n m:Nat}(h:n<=m){μ:Inj}:∀b x,cutM n μ b=some x->cutM m μ b=some x:=fun b x hx=>by
 have h1:=qnd _ _ hx;have h2:=qb4 _ _ hx;unfold cutM;rw[if_pos (by omega)];exact h2
theorem qz5 {n:Nat}{μ μ':Inj}(h:∀b x,μ b=some x->μ' b=some x):∀b x,cutM n μ b=some x->cutM n μ' b=some x:=fun b x hx=>by
 have h1:=qnd _ _ hx;have h2:=h _ _ (qb4 _ _ hx);unfold cutM;rw[if_pos h1];exact h2
structure Static (l:List Oper)(al:List AOper):Prop where
 down:∀(i:Nat) (o:Oper),l[i]?=some o->qhc i o=true
 self:∀(i:Nat) (o:Oper) (ao:AOper),l[i]?=some o->al[i]?=some ao->q7x ao=true
 pair:∀(i j:Nat) (a b:AOper),i<j->al[i]?=some a->al[j]?=some b->quw (qba l []) i j a b=true
theorem Static.clash (hs:Static l al){i j:Nat}{a b:AOper}(h:i<j)(ha:al[i]?=some a)(hb:al[j]?=some b)(hc:qn6 a b=true):qb7 (qba l []) i j=true:=by
 have:=hs.pair i j a b h ha hb;unfold quw at this;rw[hc]at this;simp at this;exact this.1.2
theorem Static.late (hs:Static l al){i j:Nat}{a b:AOper}(h:i<j)(ha:al[i]?=some a)(hb:al[j]?=some b){ag:Bool}{z t:Nat}(hop:a.op=.sload ag z t) :
 b.dst≠some t/\(b.sync=true->b.op.loud=true->qb7 (qba l []) i j=true\/∃z x y av,b.op=.storeN z x y av/\t ∈ av):=by
 have:=hs.pair i j a b h ha hb;unfold quw q7p at this;rw[hop]at this;simp only[Bool.and_eq_true]at this;obtain⟨⟨⟨⟨h1,h2⟩,_⟩,_⟩,_⟩:=this;refine⟨by simpa using h1,fun g1 g2=>?_⟩;rw[g1,g2]at h2;simp only[Bool.and_self,Bool.not_true,Bool.false_or,Bool.or_eq_true]at h2;rcases h2 with h2|h2
 ·exact .inl h2
 ·right;split at h2
  ·rename_i z x y av hq;exact⟨z,x,y,av,hq,by simpa using h2⟩
  ·cases h2
theorem Static.early (hs:Static l al){i j:Nat}{a b:AOper}(h:i<j)(ha:al[i]?=some a)(hb:al[j]?=some b){ag:Bool}{z t:Nat}(hop:b.op=.sload ag z t)(h1:a.sync=true)(h2:a.op.loud=true) :
 qb7 (qba l []) i j=true\/isApp a.op=true:=by
 have:=hs.pair i j a b h ha hb;unfold quw q7p at this;rw[hop,h1,h2]at this;simp only[Bool.and_eq_true]at this;simpa using this.1.1.2
theorem Run.still (hr:Run T n0 ops l al Es Hs vs)(hst:Static l al){i:Nat}{ao:AOper}(ha:al[i]?=some ao){ag:Bool}{z t b k off:Nat}(hop:ao.op=.sload ag z t)(hE:Es i t=.ptr b k off)(hb:b<(Hs i).length)
 (hHs:Hs (i+1)=Hs i) (hdst:ao.dst≠some t):∀e,i<=e->e<=l.length->(∀j,i<j->j<e->qgp al j->qqe al j->qb7 (qba l []) i j=false)->(Hs e)[b]?=(Hs i)[b]?/\Es e t=Es i t
 |0,h,_,_=>by have:i=0:=by omega
              subst this;exact⟨rfl,rfl⟩
 |e+1,h,he,hq=>by
  rcases Nat.lt_or_ge i (e+1)with h1|h1
  ·obtain⟨g1,g2⟩:=hr.still hst ha hop hE hb hHs hdst e (by omega) (by omega) fun j h2 h3=>hq j h2 (by omega)
   have hae:=List.getElem?_eq_getElem (show e<al.length by rw[hr.len];omega);have hoe:=List.getElem?_eq_getElem (show e<l.length by omega);have hd:(al[e]'(by rw[hr.len];omega)).dst≠some t:=by
    rcases Nat.eq_or_lt_of_le (show i<=e by omega)with h2|h2
    ·subst h2;rw[ha]at hae;injection hae with hae
     rw[<-hae];exact hdst
    ·exact(hst.late h2 ha hae hop).1
   have hEe:Es (e+1) t=Es e t:=by
    rw[hr.env e _ hae];cases hq':(al[e]'(by rw[hr.len];omega)).dst with
    |none=>rfl
    |some d=>
     have:t≠d:=fun e'=>hd (by rw[hq',e'])
     simp[put,upd,this]
   refine⟨?_,hEe.trans g2⟩;rcases Nat.eq_or_lt_of_le (show i<=e by omega)with h2|h2
   ·subst h2;rw[hHs]
   ·rw[<-g1];rcases hr.at_ e _ _ hoe hae with ⟨_,_,h3⟩|⟨_,_,_,h3,h4,h5⟩
    ·rw[h3]
    ·cases hl:(al[e]'(by rw[hr.len];omega)).op.loud with
     |false=>rw[(h4 hl).1]
     |true=>
      cases hsy:(al[e]'(by rw[hr.len];omega)).sync with
      |false=>exact qf0 (h3 hsy) (Nat.lt_of_lt_of_le hb (hr.mono (by omega) (by omega)))
      |true=>
       rcases(hst.late h2 ha hae hop).2 hsy hl with h6|⟨z',x,y,av,h6,h7⟩
       ·rw[hq e h2 (by omega) ⟨_,hae,hl⟩ ⟨_,hae,hsy⟩]at h6;cases h6
       ·exact h5.1 z' x y av h6 t h7 b k off (by rw[g2];exact hE)
  ·have:i=e+1:=by omega
   subst this;exact⟨rfl,rfl⟩
theorem Run.back (hr:Run T n0 ops l al Es Hs vs){b:Nat}{k:Blk}:∀(d e:Nat),e+d<=l.length->b<(Hs e).length->(Hs (e+d))[b]?=some (some k)->(∀j,e<=j->j<e+d->qgp al j->qqe al j->∃aj,al[j]?=some aj/\isApp aj.op=true)->(Hs e)[b]?=some (some k)
 |0,_,_,_,hk,_=>hk
 |d+1,e,he,hb,hk,hq=>by
  refine hr.back d e (by omega) hb ?_ fun j h1 h2=>hq j h1 (by omega)
  have hae:=List.getElem?_eq_getElem (show e+d<al.length by rw[hr.len];omega);have hoe:=List.getElem?_eq_getElem (show e+d<l.length by omega);have hb':b<(Hs (e+d)).length:=Nat.lt_of_lt_of_le hb (hr.mono (by omega) (by omega));rcases hr.at_ (e+d) _ _ hoe hae with ⟨_,_,h3⟩|⟨_,_,_,h3,h4,_,h6⟩
  ·rw[<-h3];exact hk
  ·cases hl:(al[e+d]'(by rw[hr.len];omega)).op.loud with
   |false=>rw[<-(h4 hl).1];exact hk
   |true=>
    cases hsy:(al[e+d]'(by rw[hr.len];omega)).sync with
    |false=>rw[<-qf0 (h3 hsy) hb'];exact hk
    |true=>
     obtain⟨aj,g1,g2⟩:=hq (e+d) (by omega) (by omega) ⟨_,hae,hl⟩ ⟨_,hae,hsy⟩;rw[hae]at g1;injection g1 with g1;subst g1
     exact h6 g2 b k hb' hk
theorem Static.sync (hs:Static l al){i j:Nat}{a b:AOper}(h:i<j)(ha:al[i]?=some a)(hb:al[j]?=some b)(hc:((a.sync&&b.op.loud) || (b.sync&&a.op.loud))=true):qb7 (qba l []) i j=true:=by
 have:=hs.pair i j a b h ha hb;unfold quw at this;rw[hc]at this;simp at this;exact this.2
theorem operands (hr:Run T n0 ops l al Es Hs vs)(hst:Static l al){D:Nat->Prop}(hc:Closed l D){tmps:Array Value}{w:World}{M:Nat->Prop}{μ:Inj}(hE:EInv T al l.length Es Hs vs D tmps w M μ)
 {i:Nat} {o:Oper} {ao:AOper} (ho:l[i]?=some o) (ha:al[i]?=some ao) (hD:¬D i) (hready:∀e ∈ o.after.toList,Region.binds .any e=true->D e.on) :
 ∀t ∈ ao.reads,R T.gid w M (cutM (Hs i).length μ) (tmps.getD t Go.undef) (Es i t):=by
 intro t ht;have hil:i<l.length:=(List.getElem?_eq_some_iff.1 ho).1;have late:∀j,j<l.length->D j->dstAt al j=some t->j<i:=by
  intro j hj hDj hd;rcases Nat.lt_trichotomy j i with h|h|h
  ·exact h
  ·subst h;exact absurd hDj hD
  ·exfalso;have haj:=List.getElem?_eq_getElem (show j<al.length by rw[hr.len];omega);unfold dstAt at hd;rw[haj]at hd;simp only[Option.bind_some]at hd;have:=hst.clash h ha haj (by unfold qn6;rw[hd];simp[ht]);exact hD (hc.before hst.down j hDj hj i this)
 have early:∀j,j<i->dstAt al j=some t->D j:=by
  intro j hj hd;have haj:=List.getElem?_eq_getElem (show j<al.length by rw[hr.len];omega);unfold dstAt at hd;rw[haj]at hd;simp only[Option.bind_some]at hd;have:=hst.clash hj haj ha (by unfold qn6;rw[hd];simp[ht]);exact qh6 hc hst.down ho hready j this
 rcases hE t with ⟨j,h1,h2,h3,h4,h5⟩|⟨h1,h2⟩
 ·have hji:=late j h1 h2 h3;rcases hr.val t i (by omega)with ⟨j0,g1,g2,g3,g4⟩|⟨g1,g2⟩
  ·have e1:j<=j0:=g3 j hji h3;have e2:j0<=j:=h4 j0 (by omega) (early j0 g1 g2) g2;have:j=j0:=by omega
   subst this;rw[g4];exact h5.mono (Keep.refl w M) (Shape.refl w) (q99 (hr.mono (by omega) (by omega)))
  ·exact absurd h3 (g1 j hji)
 ·rcases hr.val t i (by omega)with ⟨j0,g1,g2,g3,g4⟩|⟨g1,g2⟩
  ·exact absurd g2 (h1 j0 (by omega) (early j0 g1 g2))
  ·rw[g2];exact h2.mono (Keep.refl w M) (Shape.refl w) (q99 (hr.mono (by omega) (by omega)))
theorem EInv.put (hr:Run T n0 ops l al Es Hs vs)(hst:Static l al){D:Nat->Prop}(hc:Closed l D){tmps:Array Value}{w:World}{M:Nat->Prop}{μ:Inj}(hE:EInv T al l.length Es Hs vs D tmps w M μ)
 {i:Nat} {ao:AOper} (hil:i<l.length) (ha:al[i]?=some ao) (hD:¬D i) {w':World} {M':Nat->Prop} {μ':Inj} (kp:Keep w M w' M') (sh:Shape w w') (mm:∀b x,μ b=some x->μ' b=some x)
 {v':Value} (hv:R T.gid w' M' (cutM (Hs (i+1)).length μ') v' (vs i)) (hsz:∀d,ao.dst=some d->d<tmps.size) (ds:List Deferred) :
 EInv T al l.length Es Hs vs (fun j=>D j\/j=i) (Act.put { tmps:=tmps,defers:=ds } ao.dst v').tmps w' M' μ':=by
 have hdst:dstAt al i=ao.dst:=by unfold dstAt;rw[ha];rfl
 intro t;by_cases ht:ao.dst=some t
 ·left;refine⟨i,hil,.inr rfl,by rw[hdst];exact ht,fun j' h1 h2 h3=>?_,?_⟩
  ·rcases h2 with h2|h2
   ·rcases Nat.lt_or_ge i j' with h4|h4
    ·exfalso;have haj:=List.getElem?_eq_getElem (show j'<al.length by rw[hr.len];omega);unfold dstAt at h3;rw[haj]at h3;simp only[Option.bind_some]at h3;have:=hst.clash h4 ha haj (by unfold qn6;rw[ht,h3];simp);exact hD (hc.before hst.down j' h2 h1 i this)
    ·exact h4
   ·omega
  ·simp only[Act.put,ht];rw[Array.getD_eq_getD_getElem?,Array.getElem?_setIfInBounds,if_pos rfl,if_pos (hsz t ht)];exact hv
 ·have hsame:(Act.put { tmps:=tmps,defers:=ds } ao.dst v').tmps.getD t Go.undef=tmps.getD t Go.undef:=by
   cases hd:ao.dst with
   |none=>rfl
   |some d=>
    have:d≠t:=fun e=>ht (by rw[hd,e])
    simp only[Act.put];rw[Array.getD_eq_getD_getElem?,Array.getElem?_setIfInBounds,if_neg this,<-Array.getD_eq_getD_getElem?]
  rw[hsame];rcases hE t with ⟨j,h1,h2,h3,h4,h5⟩|⟨h1,h2⟩
  ·refine .inl ⟨j,h1,.inl h2,h3,fun j' g1 g2 g3=>?_,h5.mono kp sh (qz5 mm)⟩;rcases g2 with g2|g2
   ·exact h4 j' g1 g2 g3
   ·subst g2;rw[hdst]at g3;exact absurd g3 ht
  ·refine .inr ⟨fun j g1 g2 g3=>?_,h2.mono kp sh (qz5 mm)⟩;rcases g2 with g2|g2
   ·exact h1 j g1 g2 g3
   ·subst g2;rw[hdst]at g3;exact absurd g3 ht
end
end Go.Abs
namespace Go.Abs
variable {T : Tab}
theorem qacs {n:Nat}{c:V}(h:V.lowB n c=true):Low n c:=by
 cases c<;>simp only[V.lowB,decide_eq_true_eq]at h
 case ref b z off len=>exact .ref b z off len h
 case ptr b i off=>exact .ptr b i off h
 all_goals exact .cell h
theorem R.cut {gid:Gid}{w:World}{M:Nat->Prop}{μ:Inj}{n:Nat}{v:Value}{a:V}(h:R gid w M μ v a)(ht:a.isTup=false)(hl:∀c ∈ a.cells,Low n c):R gid w M (cutM n μ) v a:=by
 have hμ:∀b x,b<n->μ b=some x->cutM n μ b=some x:=fun b x hb hx=>by unfold cutM;rw[if_pos hb];exact hx
 cases h with
 |c h1=>exact .c (h1.low (Keep.refl w M) (Shape.refl w) hμ (hl a (by rw[V.cells_cell h1.isCell];simp)))
 |agg arr cs hsz h1=>exact .agg arr cs hsz fun i x c hx hc=>(h1 i x c hx hc).low (Keep.refl w M) (Shape.refl w) hμ (hl c (List.mem_of_getElem? hc))
 |tup=>cases ht
section
variable {n0 : Nat} {ops : Array Oper} {l : List Oper} {al : List AOper} {Es : Nat → Env} {Hs : Nat → Heap} {vs : Nat → V} {w0 : World} {M0 : Nat → Prop} {μ0 : Inj}
theorem HInv.quiet {D:Nat->Prop}{w:World}{M:Nat->Prop}{μ:Inj}{s e:Nat}(h:HInv T n0 al l.length Hs w0 M0 μ0 D w M μ s e){i:Nat}(hq:¬qgp al i){w':World}{M':Nat->Prop}(st:Step T.gid n0 w M μ (Hs e) w' M' μ (Hs e)) :
 HInv T n0 al l.length Hs w0 M0 μ0 (fun j=>D j\/j=i) w' M' μ s e:=
 ⟨h.se,h.en,fun j h1 h2=>.inl (h.lo j h1 h2),fun j h1 h2 h3=>h3.elim (h.hi j h1 h2) (fun e=>hq (e ▸ h2)),h.seg,h.last,h.step.trans st,
  fun b x hx=>(h.dom b x hx).imp id fun⟨j,h1,h2,h3,h4⟩=>⟨j,h1,h2,.inl h3,h4⟩,h.low⟩
theorem HInv.skipSeg {D:Nat->Prop}{w:World}{M:Nat->Prop}{μ:Inj}{s e:Nat}(h:HInv T n0 al l.length Hs w0 M0 μ0 D w M μ s e){i:Nat}(h1:i<e):HInv T n0 al l.length Hs w0 M0 μ0 (fun j=>D j\/j=i) w M μ s e:=
 ⟨h.se,h.en,fun j h1 h2=>.inl (h.lo j h1 h2),fun j h2 h3 h4=>h4.elim (h.hi j h2 h3) (fun e=>by omega),h.seg,h.last,h.step,
  fun b x hx=>(h.dom b x hx).imp id fun⟨j,h1,h2,h3,h4⟩=>⟨j,h1,h2,.inl h3,h4⟩,h.low⟩
theorem q6f (hr:Run T n0 ops l al Es Hs vs)(hst:Static l al)(hn0:n0<=(Hs 0).length){D:Nat->Prop}(hc:Closed l D){a:Act}{w:World}{M:Nat->Prop}{μ:Inj}{s e:Nat}
 (hH:HInv T n0 al l.length Hs w0 M0 μ0 D w M μ s e) (hE:EInv T al l.length Es Hs vs D a.tmps w M μ) {i:Nat} {o:Oper} {ao:AOper} (hopi:ops[i]?=some o) (ho:l[i]?=some o) (ha:al[i]?=some ao) (hD:¬D i)
 (hready:∀e ∈ o.after.toList,Region.binds .any e=true->D e.on) (hsz:∀d,ao.dst=some d->d<a.tmps.size) (K:Act->World->Prop) (Q:Exit->Act->World->Prop)
 (hK:∀a' w' M' μ' s' e',HInv T n0 al l.length Hs w0 M0 μ0 (fun j=>D j\/j=i) w' M' μ' s' e'->EInv T al l.length Es Hs vs (fun j=>D j\/j=i) a'.tmps w' M' μ'->a'.tmps.size=a.tmps.size->a'.defers=a.defers->K a' w') :
 wpOp T.P ops Q i K a w:=by
 have hil:i<l.length:=(List.getElem?_eq_some_iff.1 ho).1;have hlink:=hr.link i o ao ho ha;have hopd:=operands hr hst hc hE ho ha hD hready;have hw:∀{b},gd ao (Es i)=some b->Region.wanted o (yielded ops a.tmps)=b:=fun hg=>
  qrj (w:=w) (M:=M) (μ:=cutM (Hs i).length μ) hlink (fun t ⟨want,hg'⟩=>hopd t (by unfold AOper.reads;rw[hg'];simp)) hg
 have hput:∀{v':Value},(a.put o.dst v').tmps=(Act.put { tmps:=a.tmps,defers:=a.defers } ao.dst v').tmps:=by rw[hlink.dst];intros;rfl
 have place:qgp al i->(s<=i/\i<e)\/(i=e/\e<l.length):=by
  intro hloud;rcases Nat.lt_or_ge i s with h1|h1
  ·exact absurd (hH.lo i h1 hloud) hD
  ·rcases Nat.lt_trichotomy i e with h2|h2|h2
   ·exact .inl ⟨h1,h2⟩
   ·exact .inr ⟨h2,by omega⟩
   ·exfalso;rcases hH.last with h3|⟨h3,h4,h5⟩
    ·omega
    ·obtain⟨ae,hae,hse⟩:=h5;obtain⟨ai,hai,hli⟩:=hloud;rw[ha]at hai;injection hai with hai;subst hai
     have:=hst.sync h2 hae ha (by rw[hse,hli];rfl);exact hH.hi e (Nat.le_refl _) h4 (qh6 hc hst.down ho hready e this)
 have next:∀{w':World} {M':Nat->Prop} {μ':Inj},i=e->e<l.length->Step T.gid n0 w0 M0 μ0 (Hs 0) w' M' μ' (Hs (i+1))->∃e',HInv T n0 al l.length Hs w0 M0 μ0 (fun j=>D j\/j=i) w' M' μ' (i+1) e':=by
  intro w' M' μ' hie hel st;subst hie;rcases hH.last with h3|⟨h3,h4,h5⟩
  ·omega
  ·obtain⟨ae,hae,hse⟩:=h5;refine HInv.begin hr (by omega) (fun j hj hl=>?_) (fun j hj hl hD'=>?_) st
   ·rcases Nat.lt_or_ge j i with h6|h6
    ·obtain⟨aj,haj,hlj⟩:=hl;have:=hst.sync h6 haj hae (by rw[hse,hlj];simp);exact .inl (qh6 hc hst.down ho hready j this)
    ·exact .inr (by omega)
   ·rcases hD' with hD'|hD'
    ·exact hH.hi j (by omega) hl hD'
    ·omega
 unfold wpOp;rw[hopi];simp only[];rcases hr.at_ i o ao ho ha with ⟨hg,hv,hHs⟩|⟨hg,sem,hlen,hpre,hquiet,_⟩
 ·rw[hw hg];simp only[Bool.false_eq_true,if_false];have hEi:EInv T al l.length Es Hs vs (fun j=>D j\/j=i) (a.put o.dst Go.undef).tmps w M μ:=by
   rw[hput];exact EInv.put hr hst hc hE hil ha hD (Keep.refl w M) (Shape.refl w) (fun _ _ h=>h) (by rw[hv];exact R.undef) hsz a.defers
  by_cases hloud:qgp al i
  ·rcases place hloud with ⟨_,h2⟩|⟨h1,h2⟩
   ·exact hK _ w M μ s e (hH.skipSeg h2) hEi (by rw[qeo]) (by rw[qde])
   ·obtain⟨e',hH'⟩:=next h1 h2 (by rw[hHs,h1];exact hH.step);exact hK _ w M μ (i+1) e' hH' hEi (by rw[qeo]) (by rw[qde])
  ·exact hK _ w M μ s e (hH.quiet hloud (.refl hH.step.sim)) hEi (by rw[qeo]) (by rw[qde])
 ·rw[hw hg];simp only[if_true];left;have hreads:∀t ∈ ao.op.reads,R T.gid w M (cutM (Hs i).length μ) (a.tmps.getD t Go.undef) (Es i t):=fun t ht=>hopd t (by unfold AOper.reads;exact List.mem_append_left _ ht)
  by_cases hloud:qgp al i
  ·rcases place hloud with ⟨h1,h2⟩|⟨h1,h2⟩
   · -- in the midst of a segment
     have hnsy:ao.sync=false:=by
      cases hs':ao.sync with
      |false=>rfl
      |true=>exact absurd ⟨ao,ha,hs'⟩ (hH.seg i h1 h2 hloud)
     have hp0:Hs i <+: Hs e:=hr.pre h1 (by omega) hH.en hH.seg;have hp1:Hs (i+1) <+: Hs e:=hr.pre (s:=s) (by omega) (by omega) hH.en hH.seg;have hsr:=hH.step.sim.restrict hp0 (hH.low i h1 (by omega));refine sem a w M (cutM (Hs i).length μ) K Q (Nat.le_trans hn0 (hr.mono (Nat.zero_le _) (by omega))) hsr hreads fun v' w' M' μi B hrv=>?_
     have hgap:∀b,(Hs i).length<=b->b<(Hs (i+1)).length->μ b=none:=by
      intro b hb1 hb2;cases hq:μ b with
      |none=>rfl
      |some x=>
       exfalso;rcases hH.dom b x hq with h3|⟨j,h3,h4,h5,h6,h7⟩
       ·have:=hr.mono h1 (show i<=l.length by omega);omega
       ·rcases Nat.lt_trichotomy j i with h8|h8|h8
        ·have:=hr.mono (show j+1<=i by omega) (by omega);omega
        ·subst h8;exact hD h5
        ·have:=hr.mono (show i+1<=j by omega) (by have:=hH.en;omega);omega
     have A':=Step.merge hH.step (hr.mono (Nat.zero_le _) (by omega)) hn0 (hpre hnsy) hp1 hgap hsr B;have hold:∀b x,μ b=some x->(if b<(Hs (i+1)).length then μi b else μ b)=some x:=by
      intro b x hb;split
      ·rename_i g1;by_cases g2:b<(Hs i).length
       ·rw[B.ext b g2];unfold cutM;rw[if_pos g2];exact hb
       ·rw[hgap b (by omega) g1]at hb;cases hb
      ·exact hb
     refine hK _ w' M' _ s e ⟨hH.se,hH.en,fun j g1 g2=>.inl (hH.lo j g1 g2),fun j g1 g2 g3=>g3.elim (hH.hi j g1 g2) (fun e=>by omega),hH.seg,hH.last,A',?_,?_⟩ ?_ (by rw[qeo]) (by rw[qde])
     ·intro b x hx;split at hx
      ·by_cases g2:b<(Hs i).length
       ·rw[B.ext b g2]at hx;exact(hH.dom b x (qb4 _ _ hx)).imp id fun⟨j,g3,g4,g5,g6⟩=>⟨j,g3,g4,.inl g5,g6⟩
       ·exact .inr ⟨i,h1,h2,.inr rfl,by omega,by assumption⟩
      ·exact(hH.dom b x hx).imp id fun⟨j,g3,g4,g5,g6⟩=>⟨j,g3,g4,.inl g5,g6⟩
     ·intro k hk1 hk2 b kk hb hm hkk el hel c hcc;by_cases g1:b<(Hs i).length
      ·have hm':μ b≠none:=by
        have g3:b<(Hs (i+1)).length:=by omega
        simp only[if_pos g3]at hm;rw[B.ext b g1]at hm;unfold cutM at hm;rw[if_pos g1]at hm;exact hm
       exact hH.low k hk1 hk2 b kk hb hm' hkk el hel c hcc
      ·by_cases g2:b<(Hs (i+1)).length
       ·simp only[if_pos g2]at hm;obtain⟨⟨cc,oo,z⟩,hx⟩:=Option.ne_none_iff_exists'.1 hm;rw[qf0 hp1 g2]at hkk;obtain⟨arr,et,l1,l2,l3⟩:=(B.sim.blk b cc oo z kk hx hkk).lay;obtain⟨q,hq⟩:=List.getElem?_of_mem hel;obtain⟨j,hj⟩:=List.getElem?_of_mem hcc;obtain⟨v,_,hrc⟩:=(l3 q el hq).2.2 j c hj;have hki:i+1<=k:=by
         rcases Nat.lt_or_ge i k with h|h
         ·exact h
         ·have:=hr.mono h (show i<=l.length by omega);omega
        exact(hrc.toLow (fun b x h=>B.sim.dom b x h)).mono (hr.mono hki (by have:=hH.en;omega))
       ·simp only[if_neg g2]at hm;exact hH.low k hk1 hk2 b kk hb hm hkk el hel c hcc
     ·rw[hput];refine EInv.put hr hst hc hE hil ha hD (B.keep hsr) B.shape hold (hrv.mono (Keep.refl w' M') (Shape.refl w') fun b x hx=>?_) hsz a.defers;have g1:=B.sim.dom b x hx;unfold cutM;simp only[if_pos g1];exact hx
   · -- at the segment's end
     subst h1;have hfull:=hH.step.sim;refine sem a w M μ K Q (Nat.le_trans hn0 (hr.mono (Nat.zero_le _) (by omega))) hfull (fun t ht=>(hreads t ht).mono (Keep.refl w M) (Shape.refl w) qb4) fun v' w' M' μ' B hrv=>?_
     obtain⟨e',hH'⟩:=next rfl h2 (hH.step.trans B);refine hK _ w' M' μ' (i+1) e' hH' ?_ (by rw[qeo]) (by rw[qde]);rw[hput];refine EInv.put hr hst hc hE hil ha hD (B.keep hfull) B.shape (B.mono_map hfull) (hrv.mono (Keep.refl w' M') (Shape.refl w') fun b x hx=>?_) hsz a.defers;unfold cutM;rw[if_pos (B.sim.dom b x hx)];exact hx
  · -- no heap is asked for
    have hl:ao.op.loud=false:=by
     cases hq:ao.op.loud with
     |false=>rfl
     |true=>exact absurd ⟨ao,ha,hq⟩ hloud
    obtain⟨hHs,hsem|hlate⟩:=hquiet hl
    rotate_left
    ·obtain⟨ag,z,t,b,k,off,hop,hEt,hb,⟨kk,hkk⟩,htup,hlow,hsem⟩:=hlate;have hlen':al.length=l.length:=hr.len;have hdt:ao.dst≠some t:=by
      intro hd;have:=hst.self i o ao ho ha;simp[q7x,hop,hd]at this
     have hstill:(Hs e)[b]?=(Hs i)[b]?:=by
      rcases Nat.lt_or_ge e i with hei|hie
      ·have hx:=hreads t (by rw[hop];simp[AOp.reads]);rw[hEt]at hx;obtain⟨c,base,zz,hμ,_⟩:=hx.inv_ptr;have hbe:=hH.step.sim.dom b _ (qb4 _ _ hμ);have back:=hr.back (b:=b) (k:=kk) (i-e) e (by omega) hbe (by rw[show e+(i-e)=i by omega];exact hkk) fun j h1 h2 hl hs=>by
        obtain⟨aj,haj,hlj⟩:=hl;obtain⟨aj',haj',hsj⟩:=hs;rw[haj]at haj';injection haj' with haj';subst haj'
        rcases hst.early (show j<i by omega) haj ha hop hsj hlj with h|h
        ·exact absurd (qh6 hc hst.down ho hready j h) (hH.hi j h1 ⟨_,haj,hlj⟩)
        ·exact⟨aj,haj,h⟩
       rw[back,hkk]
      ·exact(hr.still hst ha hop hEt hb hHs hdt e hie hH.en fun j h1 h2 h3 h4=>by
        cases hq:qb7 (qba l []) i j with
        |false=>rfl
        |true=>
         exfalso;rcases Nat.lt_or_ge j s with h5|h5
         ·exact hD (hc.before hst.down j (hH.lo j h5 h3) (by have:=hH.en;omega) i hq)
         ·exact hH.seg j h5 h2 h3 h4).1
     refine hsem (Hs e) hstill a w M μ K Q (Nat.le_trans hn0 (hr.mono (Nat.zero_le _) hH.en)) hH.step.sim (fun t' ht'=>(hreads t' ht').mono (Keep.refl w M) (Shape.refl w) qb4) fun v' w' M' μ' B hrv=>?_
     have hμ:μ'=μ:=by
      funext b';rcases Nat.lt_or_ge b' (Hs e).length with h1|h1
      ·exact B.ext b' h1
      ·have e1:μ' b'=none:=by
        cases hq:μ' b' with
        |none=>rfl
        |some x=>have:=B.sim.dom b' x hq;omega
       have e2:μ b'=none:=by
        cases hq:μ b' with
        |none=>rfl
        |some x=>have:=hH.step.sim.dom b' x hq;omega
       rw[e1,e2]
     subst hμ;refine hK _ w' M' μ' s e (hH.quiet hloud B) ?_ (by rw[qeo]) (by rw[qde]);rw[hput];refine EInv.put hr hst hc hE hil ha hD (B.keep hH.step.sim) B.shape (fun _ _ h=>h) ?_ hsz a.defers;rw[hHs];exact hrv.cut htup fun c hcc=>qacs (hlow c hcc)
    have hdead:Sim T.gid w M (cutM (Hs i).length μ) (List.replicate (Hs e).length none):=Sim.dead hH.step.sim.tab fun b x hx=>hH.step.sim.dom b x (qb4 _ _ hx)
    refine hsem (List.replicate (Hs e).length none) a w M _ K Q (by simp only[List.length_replicate];exact Nat.le_trans hn0 (hr.mono (Nat.zero_le _) hH.en)) hdead hreads fun v' w' M' μ' B hrv=>?_
    have st:=Step.of_dead hH.step.sim B;refine hK _ w' M' μ s e (hH.quiet hloud st) ?_ (by rw[qeo]) (by rw[qde]);rw[hput];refine EInv.put hr hst hc hE hil ha hD (st.keep hH.step.sim) st.shape (fun _ _ h=>h) (hrv.mono (Keep.refl w' M') (Shape.refl w') fun b x hx=>?_) hsz a.defers;have hb:b<(Hs e).length:=by simpa using B.sim.dom b x hx
    rw[B.ext b (by simpa using hb)]at hx;rw[hHs];exact hx
def left (n:Nat)(listed:Array Bool):Nat:=((List.range n).filter fun i=>!listed.getD i false).length
theorem q3s {n:Nat}{listed:Array Bool}{i:Nat}(hi:i<n)(hs:listed.size=n)(h:listed.getD i false=false):left n (listed.setIfInBounds i true)<left n listed:=by
 unfold left;have sub:((List.range n).filter fun j=>!(listed.setIfInBounds i true).getD j false)=((List.range n).filter fun j=>!listed.getD j false).filter fun j=>decide (j≠i):=by
  rw[List.filter_filter];apply List.filter_congr;intro j hj;simp only[Array.getD_eq_getD_getElem?,Array.getElem?_setIfInBounds];by_cases e:i=j
  ·subst e;simp[hs,hi]
  ·have:j≠i:=fun h=>e h.symm
   simp[e,this]
 rw[sub];apply List.length_filter_lt_length_iff_exists.2;exact⟨i,List.mem_filter.2 ⟨List.mem_range.2 hi,by simp only[h];rfl⟩,by simp⟩
theorem q9x (hr:Run T n0 ops ops.toList al Es Hs vs)(hst:Static ops.toList al)(hn0:n0<=(Hs 0).length)(Q:Exit->Act->World->Prop){N:Nat}(hds:qqm N al=true)
 (hQ:∀a' w' M' μ',Step T.gid n0 w0 M0 μ0 (Hs 0) w' M' μ' (Hs ops.toList.length)->ERel T.gid w' M' μ' a'.tmps (Es ops.toList.length)->a'.defers=[]->N<=a'.tmps.size->Q .normal a' w') :
 ∀(fuel:Nat) (listed:Array Bool) (a:Act) (w:World) (M:Nat->Prop) (μ:Inj) (s e:Nat),listed.size=ops.size->left ops.size listed<=fuel->Closed ops.toList (fun i=>listed.getD i false=true) ->
  HInv T n0 al ops.toList.length Hs w0 M0 μ0 (fun i=>listed.getD i false=true) w M μ s e->EInv T al ops.toList.length Es Hs vs (fun i=>listed.getD i false=true) a.tmps w M μ->N<=a.tmps.size->a.defers=[] ->
  wpAny T.P .any ops Q fuel listed a w:=by
 have hlen:ops.toList.length=ops.size:=by simp
 have readyOf:∀{listed:Array Bool} {i:Nat},i ∈ Region.ready .any ops listed->listed.size=ops.size->∃o,i<ops.size/\ops[i]?=some o/\listed.getD i false=false/\∀e ∈ o.after.toList,Region.binds .any e=true->listed.getD e.on false=true:=by
  intro listed i hi hs;unfold Region.ready at hi;rw[List.mem_filter]at hi;obtain⟨h1,h2⟩:=hi;have hil:=List.mem_range.1 h1;simp only[Bool.and_eq_true,Bool.not_eq_true']at h2;obtain⟨h2,h3⟩:=h2;have ho:ops[i]?=some ops[i]:=by simp[hil]
  rw[ho]at h3;simp only[Option.map_some,Option.getD_some]at h3;refine⟨_,hil,ho,?_,fun e he hb=>?_⟩
  ·rw[Array.getD_eq_getD_getElem?]at h2 ⊢;have:listed[i]?=some (listed[i]'(by omega)):=by simp[hs,hil]
   rw[this]at h2 ⊢;exact h2
  ·rw[Array.all_eq_true_iff_forall_mem]at h3;have:=h3 e (by simpa using he);simp only[hb,Bool.not_true,Bool.false_or]at this;exact this
 have finish:∀{listed:Array Bool} {a:Act} {w:World} {M:Nat->Prop} {μ:Inj} {s e:Nat},listed.size=ops.size->Closed ops.toList (fun i=>listed.getD i false=true)->Region.ready .any ops listed=[] ->
  HInv T n0 al ops.toList.length Hs w0 M0 μ0 (fun i=>listed.getD i false=true) w M μ s e->EInv T al ops.toList.length Es Hs vs (fun i=>listed.getD i false=true) a.tmps w M μ->N<=a.tmps.size->a.defers=[]->Q .normal a w:=by
  intro listed a w M μ s e hs hc hready hH hE hN hd;have all:∀i,i<ops.size->listed.getD i false=true:=by
   intro i;induction i using Nat.strongRecOn with
   |_ i ih=>
    intro hi;cases hq:listed.getD i false with
    |true=>rfl
    |false=>
     exfalso;have ho:ops.toList[i]?=some ops[i]:=by simp[hi]
     have:i ∈ Region.ready .any ops listed:=by
      unfold Region.ready;rw[List.mem_filter];refine⟨List.mem_range.2 hi,?_⟩;have h1:listed.getD i true=false:=by
       rw[Array.getD_eq_getD_getElem?]at hq ⊢;have:listed[i]?=some (listed[i]'(by omega)):=by simp[hs,hi]
       rw[this]at hq ⊢;exact hq
      have h2:ops[i]?=some ops[i]:=by simp[hi]
      rw[h1,h2];simp only[Bool.not_false,Option.map_some,Option.getD_some,Bool.true_and];rw[Array.all_eq_true_iff_forall_mem];intro e' he';cases hb:Region.binds .any e' with
      |false=>simp
      |true=>
       have hdn:=hst.down i _ ho;unfold qhc at hdn;have h3:=List.all_eq_true.1 hdn e' (by simpa using he');simp[hb]at h3;simp[ih e'.on h3 (by omega)]
     rw[hready]at this;cases this
  have hen:e=ops.toList.length:=by
   rcases hH.last with h1|⟨h1,h2,_⟩
   ·exact h1
   ·exact absurd (all e (by rw[<-hlen];exact h1)) (hH.hi e (Nat.le_refl _) h2)
  subst hen;refine hQ a w M μ hH.step (fun t=>?_) hd hN;rcases hE t with ⟨j,h1,h2,h3,h4,h5⟩|⟨h1,h2⟩
  ·rcases hr.val t _ (Nat.le_refl _)with ⟨j0,g1,g2,g3,g4⟩|⟨g1,g2⟩
   ·have e1:j<=j0:=g3 j h1 h3;have e2:j0<=j:=h4 j0 g1 (all j0 (by rw[<-hlen];exact g1)) g2;have:j=j0:=by omega
    subst this;rw[g4];exact h5.mono (Keep.refl w M) (Shape.refl w) qb4
   ·exact absurd h3 (g1 j h1)
  ·rcases hr.val t _ (Nat.le_refl _)with ⟨j0,g1,g2,g3,g4⟩|⟨g1,g2⟩
   ·exact absurd g2 (h1 j0 g1 (all j0 (by rw[<-hlen];exact g1)))
   ·rw[g2];exact h2.mono (Keep.refl w M) (Shape.refl w) qb4
 intro fuel;induction fuel with
 |zero=>
  intro listed a w M μ s e hs hf hc hH hE hN hd;have hready:Region.ready .any ops listed=[]:=by
   cases hq:Region.ready .any ops listed with
   |nil=>rfl
   |cons i r=>
    exfalso;obtain⟨o,h1,h2,h3,_⟩:=readyOf (listed:=listed) (i:=i) (by rw[hq];simp) hs;have:=q3s h1 hs h3;omega
  exact⟨hready,finish hs hc hready hH hE hN hd⟩
 |succ fuel ih=>
  intro listed a w M μ s e hs hf hc hH hE hN hd;refine⟨fun hready=>finish hs hc hready hH hE hN hd,fun i hi=>?_⟩;obtain⟨o,h1,h2,h3,h4⟩:=readyOf hi hs;have ho:ops.toList[i]?=some o:=by simpa using h2
  have hal:i<al.length:=by rw[hr.len,hlen];exact h1
  have ha:=List.getElem?_eq_getElem hal;have hset:∀j,(listed.setIfInBounds i true).getD j false=true↔(listed.getD j false=true\/j=i):=by
   intro j;simp only[Array.getD_eq_getD_getElem?,Array.getElem?_setIfInBounds];by_cases e:i=j
   ·subst e;simp[hs,h1]
   ·have:j≠i:=fun h=>e h.symm
    simp[e,this]
  have hfun:(fun j=>(listed.setIfInBounds i true).getD j false=true)=(fun j=>listed.getD j false=true\/j=i):=funext fun j=>propext (hset j)
  refine q6f hr hst hn0 hc hH hE h2 ho ha (by simp[h3]) h4 (fun d hd'=>?_) _ Q fun a' w' M' μ' s' e' hH' hE' hsz hdf=>?_
  ·have:=List.all_eq_true.1 hds _ (List.getElem_mem hal);rw[hd']at this;simp at this;omega
  ·refine ih _ a' w' M' μ' s' e' (by simp[hs]) (by have:=q3s h1 hs h3;omega) ?_ (by rw[hfun];exact hH') (by rw[hfun];exact hE') (by omega) (by rw[hdf];exact hd);rw[hfun];intro j oj hj hoj e' he' hb';rcases hj with hj|hj
   ·exact .inl (hc j oj hj hoj e' he' hb')
   ·subst hj;rw[ho]at hoj;injection hoj with hoj
    subst hoj;exact .inl (h4 e' he' hb')
end
end Go.Abs
namespace Go.Abs
variable {gid : Gid} {w w0 : World} {M M0 : Nat → Prop} {μ μ0 : Inj} {H H0 : Heap} {n0 : Nat}
theorem qss {c c':V}{H1 acc:Heap}(h:frzC H c=some (c',H1)):frzC (H++acc) c=some (c',H1++acc)/\H1.length=H.length:=by
 cases c<;>simp only[frzC]at h ⊢<;>try(injection h with h;injection h with h1 h2;subst h1;subst h2;exact⟨rfl,rfl⟩)
 case ref b z off len=>
  split at h
  ·rename_i k hk;have hlt:b<H.length:=(List.getElem?_eq_some_iff.1 hk).1;split at h
   ·rename_i hc;injection h with h;injection h with h1 h2
    subst h1;subst h2;rw[List.getElem?_append_left hlt,hk];simp only[if_pos hc];refine⟨?_,by split<;>simp⟩;split
    ·rw[List.set_append_left _ _ hlt]
    ·rfl
   ·cases h
  ·cases h
 all_goals cases h
def RO (gid:Gid)(w:World)(M:Nat->Prop)(n0 L m:Nat)(μ:Inj)(v:Value)(c:V):Prop:=RC gid w M (qgo n0 L m μ) v c
theorem qup {L m m':Nat}{μ μ':Inj}(hm:m<=m')(h:∀b x,μ b=some x->μ' b=some x):∀b x,qgo n0 L m μ b=some x->qgo n0 L m' μ' b=some x:=by
 intro b x hb;unfold qgo at hb ⊢;split at hb
 ·rename_i h1;rw[if_pos h1];exact h b x hb
 ·rename_i h1;rw[if_neg h1];split at hb
  ·rw[if_pos (by omega)];exact h _ x hb
  ·cases hb
theorem quy {m:Nat}{acc:Heap}(hmn:m<=H.length)(hs:Sim gid w M μ (H++acc)){c c':V}{H1 acc1:Heap}(h:ownC n0 H acc c=some (c',H1,acc1)){v:Value}(hr:RC gid w M μ v c)(hacc:∀k,some k ∈ acc->k.arr=true) :
 ∃M' μ',Step gid m w M μ (H++acc) w M' μ' (H1++acc1)/\RO gid w M' n0 H.length acc1.length μ' v c'/\H1.length=H.length/\acc.length<=acc1.length/\(∀k,some k ∈ acc1->k.arr=true):=by
 have other:(frzC H c).bind (fun(c',H1)=>if c'.cellPure=true then some (c',H1,acc)else none)=some (c',H1,acc1) ->
  ∃M' μ',Step gid m w M μ (H++acc) w M' μ' (H1++acc1)/\RO gid w M' n0 H.length acc1.length μ' v c'/\H1.length=H.length/\acc.length<=acc1.length/\(∀k,some k ∈ acc1->k.arr=true):=by
  intro h;obtain⟨⟨c1,Ha⟩,h1,h2⟩:=qaa h;simp only[]at h2;split at h2
  ·rename_i hp;injection h2 with h2;injection h2 with h3 h4;injection h4 with h4 h5
   subst h3;subst h4;subst h5;obtain⟨g1,g2⟩:=qss (acc:=acc) h1;obtain⟨M',st,r,_⟩:=qps (n0:=m) hs g1 hr;exact⟨M',μ,st,.p (r.pure hp),g2,Nat.le_refl _,hacc⟩
  ·cases h2
 cases c
 case nil=>
  simp only[ownC]at h;injection h with h;injection h with h3 h4;injection h4 with h4 h5
  subst h3;subst h4;subst h5;exact⟨M,μ,.refl hs,.p (hr.pure rfl),rfl,Nat.le_refl _,hacc⟩
 case ref b z off len=>
  simp only[ownC]at h;split at h
  ·rename_i k hk;split at h
   ·rename_i hc;obtain⟨c1,c2,c3,c4,c5⟩:=hc;injection h with h;injection h with h3 h4;injection h4 with h4 h5
    subst h3;subst h4;subst h5;subst c4;have hlt:b<H.length:=(List.getElem?_eq_some_iff.1 hk).1;have hk':(H++acc)[b]?=some (some k):=by rw[List.getElem?_append_left hlt];exact hk
    obtain⟨a,cap,cc,base,arr,e,rfl,hcb,hsp,hcap,hμ,hoff,hw,hsz,hcs⟩:=qjg hs hk' hr;have hblk:=hs.blk b cc base k.z k hμ hk';obtain⟨arr1,e1,l1,l2,l3⟩:=hblk.lay;rw[hw]at l1;injection l1 with l1
    injection l1 with w1 w2 w3
    subst w1;subst w2;have hlen:((k.el.drop off).take len).length=len:=by simp;omega
    have hrow:(off+len)*k.z<=k.el.length*k.z:=Nat.mul_le_mul_right _ c5;rw[Nat.add_mul]at hrow;have st:=Step.regrow (n0:=m) (k':={ k with el:=(k.el.drop off).take len }) (base':=base+off*k.z) (by simp;omega) hs hμ hk' c3 rfl c3 arr arr e hw rfl (by simp only[hlen];omega)
     (fun i el hi=>by
      rw[List.getElem?_take]at hi;split at hi
      ·rw[List.getElem?_drop]at hi;obtain⟨g1,g2,g3⟩:=l3 _ el hi;refine⟨g1,g2,fun j cv hj=>?_⟩;obtain⟨x,hx,hrx⟩:=g3 j cv hj;refine⟨x,?_,hrx⟩;rw[<-hx]
       congr 1
       rw[Nat.add_mul];omega
      ·cases hi) (fun ha el hel=>hblk.pur ha el (List.mem_of_mem_drop (List.mem_of_mem_take hel)))
    rw[setRow_self w cc arr e (0,0) hw,List.set_append_left _ _ hlt,List.append_assoc]at st;refine⟨_,_,st,?_,by simp,by simp,fun k' hk'=>?_⟩
    ·refine .ref _ _ _ _ cc (base+off*k.z) cap a arr e (0,0) ?_ hcb hsp hcap (hoff.imp id fun h=>by omega) hw hsz;unfold qgo;rw[if_neg (by omega),if_pos (by simp)];simp only[List.length_append];rw[if_pos (by omega)]
    ·rw[List.mem_append]at hk';rcases hk' with hk'|hk'
     ·exact hacc k' hk'
     ·simp at hk';subst hk';exact c2
   ·split at h
    ·rename_i hb;injection h with h;injection h with h3 h4;injection h4 with h4 h5
     subst h3;subst h4;subst h5;refine⟨M,μ,.refl hs,?_,rfl,Nat.le_refl _,hacc⟩;cases hr with
     |p h=>cases h
     |ref b z off len c base cap a arr e fr hμ hc ha hcap hoff hw hsz=>exact .ref b z off len c base cap a arr e fr (by unfold qgo;rw[if_pos hb];exact hμ) hc ha hcap hoff hw hsz
    ·cases h
  ·cases h
 all_goals exact other h
theorem qrw {m:Nat}:∀(cs:List V) {H acc:Heap} {M:Nat->Prop} {μ:Inj} (_:m<=H.length) (_:n0<=H.length) (_:Sim gid w M μ (H++acc)) {cs':List V} {H1 acc1:Heap} (_:ownCs n0 H acc cs=some (cs',H1,acc1)) {vs:List Value}
 (_:vs.length=cs.length) (_:∀(i:Nat) (v:Value) (c:V),vs[i]?=some v->cs[i]?=some c->RC gid w M μ v c) (_:∀k,some k ∈ acc->k.arr=true),
 ∃M' μ',Step gid m w M μ (H++acc) w M' μ' (H1++acc1)/\vs.length=cs'.length/\(∀(i:Nat) (v:Value) (c:V),vs[i]?=some v->cs'[i]?=some c->RO gid w M' n0 H.length acc1.length μ' v c)/\H1.length=H.length/\acc.length<=acc1.length/\(∀k,some k ∈ acc1->k.arr=true)
 | [],H,acc,M,μ,_,_,hs,cs',H1,acc1,h,vs,hl,hr,hacc=>by
  simp only[ownCs]at h;injection h with h;injection h with h1 h2;injection h2 with h2 h3
  subst h1;subst h2;subst h3;have:vs=[]:=List.eq_nil_of_length_eq_zero (by simpa using hl);subst this;exact⟨M,μ,.refl hs,rfl,by simp,rfl,Nat.le_refl _,hacc⟩
 |c :: cs,H,acc,M,μ,hm,hn,hs,cs',H1,acc1,h,vs,hl,hr,hacc=>by
  simp only[ownCs]at h;obtain⟨⟨c',Ha,acca⟩,h1,h⟩:=qaa h;obtain⟨⟨cs'',Hb,accb⟩,h2,h3⟩:=qaa h;injection h3 with h3;injection h3 with h3 h4;injection h4 with h4 h5
  subst h3;subst h4;subst h5;cases vs with
  |nil=>simp at hl
  |cons v vs=>
   obtain⟨Ma,μa,sa,ra,la,ha,pa⟩:=quy (m:=m) hm hs h1 (hr 0 v c rfl rfl) hacc;obtain⟨Mb,μb,sb,lb,rb,lb',hb,pb⟩:=qrw cs (m:=m) (by omega) (by omega) sa.sim h2 (vs:=vs) (by simpa using hl) (fun i x y hx hy=>sa.rc hs (hr (i+1) x y (by simpa using hx) (by simpa using hy))) pa;refine⟨Mb,μb,sa.trans sb,by simp[lb],fun i x y hx hy=>?_,lb'.trans la,Nat.le_trans ha hb,pb⟩;rw[la]at rb;cases i with
   |zero=>
    simp at hx hy;subst hx;subst hy;exact RC.mono (sb.keep sa.sim) sb.shape (qup hb (sb.mono_map sa.sim)) ra
   |succ i=>exact rb i x y (by simpa using hx) (by simpa using hy)
theorem qux {m:Nat}{acc:Heap}(hmn:m<=H.length)(hn:n0<=H.length)(hs:Sim gid w M μ (H++acc)){c c':V}{H1 acc1:Heap}(h:ownV n0 H acc c=some (c',H1,acc1)){v:Value}(hr:R gid w M μ v c)(hacc:∀k,some k ∈ acc->k.arr=true) :
 ∃M' μ',Step gid m w M μ (H++acc) w M' μ' (H1++acc1)/\R gid w M' (qgo n0 H.length acc1.length μ') v c'/\H1.length=H.length/\acc.length<=acc1.length/\(∀k,some k ∈ acc1->k.arr=true):=by
 cases hr with
 |c hr=>
  have h':ownC n0 H acc c=some (c',H1,acc1):=by
   have:=hr.isCell;cases c<;>first|exact h|cases this
  obtain⟨M',μ',st,r,l,a,p⟩:=quy (m:=m) hmn hs h' hr hacc;exact⟨M',μ',st,.c r,l,a,p⟩
 |agg arr cs hsz hr=>
  simp only[ownV]at h;obtain⟨⟨cs',Ha,acca⟩,h1,h2⟩:=qaa h;injection h2 with h2;injection h2 with h3 h4;injection h4 with h4 h5
  subst h3;subst h4;subst h5;obtain⟨M',μ',st,l,r,l',a,p⟩:=qrw (m:=m) cs hmn hn hs h1 (vs:=arr.toList) (by simpa using hsz) (fun i x y hx hy=>hr i x y (by simpa using hx) hy) hacc;exact⟨M',μ',st,.agg arr cs' (by simpa using l) (fun i x y hx hy=>r i x y (by simpa using hx) hy),l',a,p⟩
 |tup arr vs hsz hr=>simp[ownV,ownC,frzC]at h
theorem qrv {m:Nat}:∀(cs:List V) {H acc:Heap} {M:Nat->Prop} {μ:Inj} (_:m<=H.length) (_:n0<=H.length) (_:Sim gid w M μ (H++acc)) {cs':List V} {H1 acc1:Heap} (_:ownVs n0 H acc cs=some (cs',H1,acc1)) {vs:List Value}
 (_:Rs gid w M μ vs cs) (_:∀k,some k ∈ acc->k.arr=true),
 ∃M' μ',Step gid m w M μ (H++acc) w M' μ' (H1++acc1)/\Rs gid w M' (qgo n0 H.length acc1.length μ') vs cs'/\H1.length=H.length/\acc.length<=acc1.length/\(∀k,some k ∈ acc1->k.arr=true)
 | [],H,acc,M,μ,_,_,hs,cs',H1,acc1,h,vs,hr,hacc=>by
  simp only[ownVs]at h;injection h with h;injection h with h1 h2;injection h2 with h2 h3
  subst h1;subst h2;subst h3;have:vs=[]:=List.eq_nil_of_length_eq_zero (by simpa using hr.1);subst this;exact⟨M,μ,.refl hs,⟨rfl,by simp⟩,rfl,Nat.le_refl _,hacc⟩
 |c :: cs,H,acc,M,μ,hm,hn,hs,cs',H1,acc1,h,vs,hr,hacc=>by
  simp only[ownVs]at h;obtain⟨⟨c',Ha,acca⟩,h1,h⟩:=qaa h;obtain⟨⟨cs'',Hb,accb⟩,h2,h3⟩:=qaa h;injection h3 with h3;injection h3 with h3 h4;injection h4 with h4 h5
  subst h3;subst h4;subst h5;cases vs with
  |nil=>have:=hr.1;simp at this
  |cons v vs=>
   obtain⟨Ma,μa,sa,ra,la,ha,pa⟩:=qux (m:=m) hm hn hs h1 hr.tail.1 hacc;obtain⟨Mb,μb,sb,rb,lb',hb,pb⟩:=qrv cs (m:=m) (by omega) (by omega) sa.sim h2 (Rs.step sa hs hr.tail.2) pa;refine⟨Mb,μb,sa.trans sb,?_,lb'.trans la,Nat.le_trans ha hb,pb⟩;rw[la]at rb;exact Rs.cons (R.mono (sb.keep sa.sim) sb.shape (qup hb (sb.mono_map sa.sim)) ra) rb
theorem q9r {own:Bool}{v2:V}{H2:Heap}(h0:H0.length=n0)(hlow:LowH n0 μ0 H0)(st:Step gid n0 w0 M0 μ0 H0 w M μ H){x:Value}{v:V}(hr:R gid w M μ x v)(h:fin own n0 H v=some (v2,H2)) :
 ∃M' μ',Step gid n0 w0 M0 μ0 H0 w M' μ' H2/\R gid w M' μ' x v2:=by
 have hl:=st.len;unfold fin at h;cases own with
 |true=>
  simp only[if_true]at h;have drop:∀{M':Nat->Prop} {μ':Inj} {H1 acc:Heap},Step gid n0 w M μ (H++[]) w M' μ' (H1++acc)->H1.length=H.length->(∀k,some k ∈ acc->k.arr=true) ->
   Step gid n0 w0 M0 μ0 H0 w M' (qgo n0 H.length acc.length μ') (H1.take n0++acc):=by
   intro M' μ' H1 acc s1 s2 s3;rw[List.append_nil]at s1;have s4:=st.trans s1;have e:H1++acc=H1.take n0++H1.drop n0++acc:=by simp
   rw[e]at s4;have:=Step.drop s4 (by simp;omega) h0 hlow s3;rw[show n0+(H1.drop n0).length=H.length by simp;omega]at this;exact this
  have single:∀{v2:V} {H2:Heap},(ownV n0 H [] v).bind (fun(v',H1,acc)=>some (v',H1.take n0++acc))=some (v2,H2)->∃M' μ',Step gid n0 w0 M0 μ0 H0 w M' μ' H2/\R gid w M' μ' x v2:=by
   intro v2 H2 h;obtain⟨⟨c',H1,acc⟩,h1,h2⟩:=qaa h;injection h2 with h2;injection h2 with h3 h4
   subst h3;subst h4;obtain⟨M',μ',s1,r,l,a,p⟩:=qux (m:=n0) (acc:=[]) (by omega) (by omega) (by rw[List.append_nil];exact st.sim) h1 hr (by simp);exact⟨M',_,drop s1 l p,r⟩
  split at h
  ·rename_i vs;obtain⟨arr,rfl,hsz,hr'⟩:=hr.inv_tup;obtain⟨⟨vs',H1,acc⟩,h1,h2⟩:=qaa h;injection h2 with h2;injection h2 with h3 h4
   subst h3;subst h4;obtain⟨M',μ',s1,r,l,a,p⟩:=qrv (m:=n0) (acc:=[]) vs (by omega) (by omega) (by rw[List.append_nil];exact st.sim) h1 (vs:=arr.toList) ⟨by simpa using hsz,fun i x y hx hy=>hr' i x y (by simpa using hx) hy⟩ (by simp);exact⟨M',_,drop s1 l p,.tup arr vs' (by simpa using r.1) (fun i x y hx hy=>r.2 i x y (by simpa using hx) hy)⟩
  ·exact single h
 |false=>
  simp only[Bool.false_eq_true,if_false]at h;split at h
  ·rename_i vs;obtain⟨arr,rfl,hsz,hr'⟩:=hr.inv_tup;obtain⟨⟨vs',H1⟩,h1,h2⟩:=qaa h;injection h2 with h2;injection h2 with h3 h4
   subst h3;subst h4;obtain⟨M',s1,r,p,l⟩:=qjv (n0:=n0) vs st.sim h1 (vs:=arr.toList) ⟨by simpa using hsz,fun i x y hx hy=>hr' i x y (by simpa using hx) hy⟩;obtain⟨μ',s2⟩:=Step.take (st.trans s1) h0 hlow;exact⟨M',μ',s2,.tup arr vs' (by simpa using r.1) (fun i x y hx hy=>(r.2 i x y (by simpa using hx) hy).pureAny (p y (List.mem_of_getElem? hy)) μ')⟩
  ·obtain⟨⟨v',H1⟩,h1,h2⟩:=qaa h;injection h2 with h2;injection h2 with h3 h4
   subst h3;subst h4;obtain⟨M',s1,r,p,l⟩:=qk7 (n0:=n0) st.sim h1 hr;obtain⟨μ',s2⟩:=Step.take (st.trans s1) h0 hlow;exact⟨M',μ',s2,r.pureAny p μ'⟩
end Go.Abs
namespace Go.Abs
structure Seat (T:Tab)(S:AProg):Prop where
 mixed:T.P.follows .mixedOrders=true
 fns : ∀ fid g f, T.gid fid = some g → S.fn g = some f → ∃ fn C, T.P.funcs[fid]? = some fn ∧ fn.name ≠ "runtime.NumGoroutine" ∧ fn.body = some C ∧ comp T fn.ntmps C = some f.body ∧ cRVs T fn.results.toList = some f.results
 prims : ∀ fid g args v H, T.gid fid = some g → S.prim g args = some v → ∃ fn, T.P.funcs[fid]? = some fn ∧ fn.name ≠ "runtime.NumGoroutine" ∧ fn.body.isSome = true ∧
  ∀(w:World) (M:Nat->Prop) (μ:Inj) (vs:List Value),Sim T.gid w M μ H->Rs T.gid w M μ vs args ->
   Calls T.P fid vs.toArray w fun e w'=>∃v' M' μ',e=.returned v'/\Step T.gid H.length w M μ H w' M' μ' H/\R T.gid w' M' μ' v' v
def AX.toExit : AX->Exit
 | .normal=>.normal
 | .exit id=>.exit id
 | .ret=>.ret
def qabj (T:Tab)(g:Nat)(args:List V)(H:Heap)(v:V)(H':Heap):Prop:=
 H.length ≤ H'.length ∧ ∀ fid, T.gid fid = some g → ∃ fn, T.P.funcs[fid]? = some fn ∧ fn.name ≠ "runtime.NumGoroutine" ∧ fn.body.isSome = true ∧
  ∀(w:World) (M:Nat->Prop) (μ:Inj) (vs:List Value),Sim T.gid w M μ H->Rs T.gid w M μ vs args ->
   Calls T.P fid vs.toArray w fun e w'=>∃v' M' μ',e=.returned v'/\Step T.gid H.length w M μ H w' M' μ' H'/\R T.gid w' M' μ' v' v
def Ends (T:Tab)(n0 nt:Nat)(w:World)(M:Nat->Prop)(μ:Inj)(H:Heap)(x:AX)(E':Env)(H':Heap)(Q:Exit->Act->World->Prop):Prop:=
 ∀a' w' M' μ',Step T.gid n0 w M μ H w' M' μ' H'->ERel T.gid w' M' μ' a'.tmps E'->a'.defers=[]->nt<=a'.tmps.size->Q x.toExit a' w'
def qabh (T:Tab)(n0:Nat)(c:AC)(E:Env)(H:Heap)(x:AX)(E':Env)(H':Heap):Prop:=
 H.length<=H'.length /\
 (∀(nt:Nat) (C:Code) (a:Act) (w:World) (M:Nat->Prop) (μ:Inj) (Q:Exit->Act->World->Prop),comp T nt C=some c->n0<=H.length->nt<=a.tmps.size->Sim T.gid w M μ H->ERel T.gid w M μ a.tmps E->a.defers=[] ->
  Ends T n0 nt w M μ H x E' H' Q->C.wp T.P Q a w) /\
 (∀c',c=.loop c'->∃n,∀(nt:Nat) (C:Code) (a:Act) (w:World) (M:Nat->Prop) (μ:Inj) (Q:Exit->Act->World->Prop),comp T nt C=some c'->n0<=H.length->nt<=a.tmps.size->Sim T.gid w M μ H->ERel T.gid w M μ a.tmps E->a.defers=[] ->
  Ends T n0 nt w M μ H x E' H' Q->Code.rounds T.P C Q n a w)
def qalm (T:Tab)(n0:Nat)(d:Bool)(l:List AOper)(E:Env)(H:Heap)(x:AX)(E':Env)(H':Heap):Prop:=
 x=.normal/\H.length<=H'.length/\∀(ops:Array Oper) (os:List Oper),os.length=l.length->(∀(i:Nat) (o:Oper) (ao:AOper),os[i]?=some o->l[i]?=some ao->Link T ops o ao)->Tr T n0 d ops os l E H E' H'
def qalo (T:Tab):Task->Res->Prop
 | .call g args H,.ret v H'=>qabj T g args H v H'
 | .code n0 c E H,.cd x E' H'=>qabh T n0 c E H x E' H'
 | .ops n0 d l E H,.cd x E' H'=>qalm T n0 d l E H x E' H'
 |_,_=>True
variable {T : Tab} {S : AProg}
theorem qtk {nt:Nat}{ops:Array Oper}{draw:Bool}{c:AC}(h:qtl T nt ops draw=some c) :
 ∃l,qvl T ops ops.toList=some l/\qqm nt l=true/\((draw=false/\c=.region false l) \/
  (draw=true/\c=.region true (qer (qba ops.toList []) l) /\
   ((List.range ops.size).all fun i=>match ops[i]? with|some o=>qhc i o|none=>false)=true/\qvb (qba ops.toList []) (qer (qba ops.toList []) l)=true)):=by
 unfold qtl at h;obtain⟨l,h1,h⟩:=qaa h;split at h
 ·rename_i hd;split at h
  ·rename_i hdr;simp only[]at h;split at h
   ·rename_i hc;simp only[Bool.and_eq_true]at hc;injection h with h
    exact⟨l,h1,hd,.inr ⟨hdr,h.symm,hc.1,hc.2⟩⟩
   ·cases h
  ·rename_i hdr;injection h with h
   exact⟨l,h1,hd,.inl ⟨by simpa using hdr,h.symm⟩⟩
 ·cases h
theorem qet {nt:Nat}{C:Code}{c:AC}(h:comp T nt C=some c) :
 match c with
 | .skip=>C=.skip\/∃l,C=.label l
 | .region d l=>∃id ops,C=.region id ops d/\qtl T nt ops d=some (.region d l)
 | .seq a b=>∃A B,C=.seq A B/\comp T nt A=some a/\comp T nt B=some b
 | .cond x a b=>∃X A B,C=.cond X A B/\cX T X=some x/\comp T nt A=some a/\comp T nt B=some b
 | .block id a=>∃A,C=.block id A/\comp T nt A=some a
 | .loop a=>∃A,C=.loop A/\comp T nt A=some a
 | .scope a=>∃A,C=.scope A/\comp T nt A=some a
 | .exit id=>C=.exit id
 | .ret=>C=.ret
 | .stop=>True:=by
 cases C<;>simp only[comp]at h
 case skip=>injection h with h;subst h;exact .inl rfl
 case label l=>injection h with h;subst h;exact .inr ⟨l,rfl⟩
 case scope A=>
  obtain⟨a,h1,rfl⟩:=qac h;exact⟨A,rfl,h1⟩
 case region id ops draw=>
  cases hr:qtl T nt ops draw with
  |none=>rw[hr]at h;injection h with h;subst h;trivial
  |some c'=>
   rw[hr]at h;injection h with h
   subst h;obtain⟨l,h1,h2,h3|h3⟩:=qtk hr
   ·obtain⟨h3,h4⟩:=h3;subst h3;subst h4;exact⟨id,ops,rfl,hr⟩
   ·obtain⟨h3,h4,_⟩:=h3;subst h3;subst h4;exact⟨id,ops,rfl,hr⟩
 case seq A B=>
  obtain⟨a,h1,h⟩:=qaa h;obtain⟨b,h2,rfl⟩:=qac h;exact⟨A,B,rfl,h1,h2⟩
 case cond x A B=>
  obtain⟨c,h0,h⟩:=qaa h;obtain⟨a,h1,h⟩:=qaa h;obtain⟨b,h2,rfl⟩:=qac h;exact⟨x,A,B,rfl,h0,h1,h2⟩
 case block id A=>
  obtain⟨a,h1,rfl⟩:=qac h;exact⟨A,rfl,h1⟩
 case loop A=>
  obtain⟨a,h1,rfl⟩:=qac h;exact⟨A,rfl,h1⟩
 case exit id=>injection h with h;subst h;rfl
 case ret=>injection h with h;subst h;rfl
 all_goals(injection h with h;subst h;trivial)
theorem qvk : ∀(os:List Oper) {ops:Array Oper} {l:List AOper} (_:qvl T ops os=some l),os.length=l.length/\∀(i:Nat) (o:Oper) (ao:AOper),os[i]?=some o->l[i]?=some ao->cOper T ops o=some ao
 | [],ops,l,h=>by simp only[qvl]at h;injection h with h;subst h;exact⟨rfl,by simp⟩
 |o :: os,ops,l,h=>by
  simp only[qvl,Option.bind_eq_some_iff]at h;obtain⟨ao,h1,q,h2,h3⟩:=h;injection h3 with h3
  subst h3;obtain⟨g1,g2⟩:=qvk os h2;refine⟨by simp[g1],fun i x y hx hy=>?_⟩;cases i with
  |zero=>simp at hx hy;subst hx;subst hy;exact h1
  |succ i=>exact g2 i x y (by simpa using hx) (by simpa using hy)
theorem cX_on {w:World}{M:Nat->Prop}{μ:Inj}(tb:Tabs T.gid w M){x:Operand}{c:X}(h:cX T x=some c){a:Act}{E:Env}(hE:q43 T.gid w M μ c.reads a.tmps E):R T.gid w M μ (a.eval x) (getX E c):=by
 cases x with
 |tmp t=>simp only[cX]at h;injection h with h;subst h;exact hE t (by simp[X.reads])
 |const v=>
  simp only[cX,Option.map_eq_some_iff]at h;obtain⟨c',h1,rfl⟩:=h;exact(qft h1).1
 |func f=>
  simp only[cX,Option.map_eq_some_iff]at h;obtain⟨g,h1,rfl⟩:=h;exact .c (.p (.fn f g h1))
 |global g=>
  simp only[cX,Option.map_eq_some_iff]at h;obtain⟨cs,h1,rfl⟩:=h;exact .c (.p (tb g cs h1))
theorem qafg {w:World}{M:Nat->Prop}{μ:Inj}(tb:Tabs T.gid w M):∀(xs:List Operand) {cs:List X} (_:cXs T xs=some cs) {a:Act} {E:Env} (_:q43 T.gid w M μ (cs.flatMap X.reads) a.tmps E),Rs T.gid w M μ (xs.map a.eval) (cs.map (getX E))
 | [],cs,h,a,E,hE=>by simp only[cXs]at h;injection h with h;subst h;exact⟨rfl,by simp⟩
 |x :: xs,cs,h,a,E,hE=>by
  simp only[cXs,Option.bind_eq_some_iff]at h;obtain⟨c,h1,cs',h2,h3⟩:=h;injection h3 with h3
  subst h3;exact Rs.cons (cX_on tb h1 fun t ht=>hE t (by rw[List.flatMap_cons];exact List.mem_append_left _ ht)) (qafg tb xs h2 fun t ht=>hE t (by rw[List.flatMap_cons];exact List.mem_append_right _ ht))
theorem R.inv_fn {w:World}{M:Nat->Prop}{μ:Inj}{gid:Gid}{v:Value}{g:Nat}{caps:List V}(h:R gid w M μ v (.fn g caps)) :
 ∃fid cs,v=.func (.func fid) #[] cs/\gid fid=some g/\Rs gid w M μ cs.toList caps:=by
 cases h with
 |c h=>
  cases h with
  |p h=>cases h with|fn f g hg=>exact⟨f,#[],rfl,hg,rfl,by simp⟩
  |fn f g cs caps hg hsz hr=>exact⟨f,cs,rfl,hg,by simpa using hsz,fun i x y hx hy=>.c (hr i x y (by simpa using hx) hy)⟩
theorem Rs.append {w:World}{M:Nat->Prop}{μ:Inj}{gid:Gid}{vs ws:List Value}{cs ds:List V}(h:Rs gid w M μ vs cs)(k:Rs gid w M μ ws ds):Rs gid w M μ (vs++ws) (cs++ds):=by
 refine⟨by simp[h.1,k.1],fun i x y hx hy=>?_⟩;by_cases hi:i<vs.length
 ·rw[List.getElem?_append_left hi]at hx;rw[List.getElem?_append_left (by rw[<-h.1];exact hi)]at hy;exact h.2 i x y hx hy
 ·rw[List.getElem?_append_right (by omega)]at hx;rw[List.getElem?_append_right (by rw[<-h.1];omega),<-h.1]at hy;exact k.2 _ x y hx hy
theorem qadp {cop:Op}{x:X}{q:List X}(h:cOp T cop=some (.call x q)):∃f args argTypes,cop=.call ⟨.value f,args,argTypes⟩/\cX T f=some x/\cXs T args.toList=some q:=by
 cases cop
 case call c=>
  obtain⟨callee,args,argTypes⟩:=c;cases callee
  case value f=>
   simp only[cOp]at h;obtain⟨f',h1,h⟩:=qaa h;obtain⟨q',h2,h3⟩:=qac h;injection h3 with h3 h4
   subst h3;subst h4;exact⟨f,args,argTypes,rfl,h1,h2⟩
  case invoke r m=>cases h
  case builtin bi=>
   exfalso;cases bi<;>simp only[cOp]at h<;>try(cases h;done)
   case len=>
    split at h
    ·split at h
     ·obtain⟨_,_,h⟩:=qac h;cases h
     ·obtain⟨_,_,h⟩:=qac h;cases h
     ·cases h
    ·cases h
   case cap=>
    split at h
    ·split at h
     ·obtain⟨_,_,h⟩:=qac h;cases h
     ·cases h
    ·cases h
   case append=>
    split at h
    ·split at h
     ·obtain⟨e,h1,h⟩:=qaa h;obtain⟨z,h3,h⟩:=qaa h;obtain⟨i,h4,h⟩:=qaa h;obtain⟨zv,h5,h⟩:=qaa h;obtain⟨x',h6,h⟩:=qaa h;obtain⟨y',h7,h⟩:=qaa h;split at h<;>cases h
     obtain⟨e,h1,h⟩:=qaa h;obtain⟨e',h2,h⟩:=qaa h;obtain⟨z,h3,h⟩:=qaa h;obtain⟨i,h4,h⟩:=qaa h;obtain⟨zv,h5,h⟩:=qaa h;obtain⟨x',h6,h⟩:=qaa h;obtain⟨y',h7,h⟩:=qaa h;split at h<;>cases h
    ·cases h
   case copy=>
    split at h
    ·obtain⟨e,h1,h⟩:=qaa h;obtain⟨z,h3,h⟩:=qaa h;obtain⟨x',h6,h⟩:=qaa h;obtain⟨y',h7,h⟩:=qaa h;split at h<;>cases h
    ·cases h
   case min=>
    split at h
    ·obtain⟨_,_,h⟩:=qaa h;obtain⟨_,_,h⟩:=qac h;cases h
    ·cases h
   case max=>
    split at h
    ·obtain⟨_,_,h⟩:=qaa h;obtain⟨_,_,h⟩:=qac h;cases h
    ·obtain⟨_,_,h⟩:=qaa h;obtain⟨_,_,h⟩:=qaa h;obtain⟨_,_,h⟩:=qac h;cases h
    ·cases h
 case move y=>obtain⟨_,_,h⟩:=qac h;cases h
 case assign y=>obtain⟨_,_,h⟩:=qac h;cases h
 case pick c y z=>obtain⟨_,_,h⟩:=qaa h;obtain⟨_,_,h⟩:=qaa h;obtain⟨_,_,h⟩:=qac h;cases h
 case alloc t=>
  obtain⟨_,_,h⟩:=qaa h;obtain⟨_,_,h⟩:=qaa h;split at h<;>cases h
 case box t y=>obtain⟨_,_,h⟩:=qaa h;obtain⟨_,_,h⟩:=qac h;cases h
 case build t ps=>
  simp only[cOp]at h;split at h
  ·split at h
   ·obtain⟨_,_,h⟩:=qaa h;obtain⟨_,_,h⟩:=qac h;cases h
   ·cases h
  ·obtain⟨_,_,h⟩:=qaa h;obtain⟨_,_,h⟩:=qaa h;obtain⟨_,_,h⟩:=qac h;cases h
  ·cases h
 case buildSlice t len ps=>
  obtain⟨_,_,h⟩:=qaa h;obtain⟨_,_,h⟩:=qaa h;obtain⟨_,_,h⟩:=qaa h;obtain⟨_,_,h⟩:=qaa h;split at h<;>cases h
 case load t y=>obtain⟨_,_,h⟩:=qaa h;obtain⟨_,_,h⟩:=qaa h;obtain⟨_,_,h⟩:=qac h;cases h
 case store t y z=>obtain⟨_,_,h⟩:=qaa h;obtain⟨_,_,h⟩:=qaa h;obtain⟨_,_,h⟩:=qac h;cases h
 case binOp bop t y z u=>obtain⟨_,_,h⟩:=qaa h;obtain⟨_,_,h⟩:=qaa h;obtain⟨_,_,h⟩:=qac h;cases h
 case unOp uop t y=>obtain⟨_,_,h⟩:=qac h;cases h
 case convert src dst y=>
  simp only[cOp]at h;split at h
  ·obtain⟨_,_,h⟩:=qac h;cases h
  ·cases h
 case makeFunc fn first caps=>
  cases fn<;>simp only[cOp]at h<;>try(cases h;done)
  split at h
  ·obtain⟨_,_,h⟩:=qaa h;obtain⟨_,_,h⟩:=qac h;cases h
  ·cases h
 case makeSlice t y z=>
  obtain⟨_,_,h⟩:=qaa h;obtain⟨_,_,h⟩:=qaa h;obtain⟨_,_,h⟩:=qaa h;obtain⟨_,_,h⟩:=qaa h;obtain⟨_,_,h⟩:=qaa h;obtain⟨_,_,h⟩:=qaa h;split at h<;>cases h
 case slice t y lo hi mx=>
  obtain⟨_,_,h⟩:=qaa h;obtain⟨_,_,h⟩:=qaa h;obtain⟨_,_,h⟩:=qaa h;obtain⟨_,_,h⟩:=qaa h;obtain⟨_,_,h⟩:=qaa h;obtain⟨_,_,h⟩:=qaa h;split at h<;>cases h
 case fieldAddr s y f=>
  simp only[cOp]at h;split at h
  ·obtain⟨_,_,h⟩:=qaa h;obtain⟨_,_,h⟩:=qaa h;obtain⟨_,_,h⟩:=qaa h;split at h<;>cases h
  ·cases h
 case field t y f=>
  simp only[cOp]at h;split at h
  ·obtain⟨_,_,h⟩:=qaa h;obtain⟨_,_,h⟩:=qaa h;obtain⟨_,_,h⟩:=qaa h;obtain⟨_,_,h⟩:=qac h;cases h
  ·cases h
 case indexAddr t y i=>
  simp only[cOp]at h;split at h
  ·obtain⟨_,_,h⟩:=qaa h;obtain⟨_,_,h⟩:=qaa h;obtain⟨_,_,h⟩:=qac h;cases h
  ·obtain⟨_,_,h⟩:=qaa h;obtain⟨_,_,h⟩:=qaa h;obtain⟨_,_,h⟩:=qac h;cases h
  ·cases h
 case index t y i=>
  simp only[cOp]at h;split at h
  ·obtain⟨_,_,h⟩:=qaa h;obtain⟨_,_,h⟩:=qaa h;obtain⟨_,_,h⟩:=qaa h;obtain⟨_,_,h⟩:=qac h;cases h
  ·obtain⟨_,_,h⟩:=qaa h;obtain⟨_,_,h⟩:=qac h;cases h
  ·cases h
 case extract y i=>obtain⟨_,_,h⟩:=qac h;cases h
 all_goals(cases h)
theorem q5p {n0:Nat}{o:Oper}{x:X}{q:List X}(hop:cOp T o.op=some (.call x q)){E:Env}{H H1 H2:Heap}{g:Nat}{caps vs:List V}{v:V}(hx:getX E x=.fn g caps)(hp:prep S g H (q.map (getX E)++caps)=some (vs,H1))
 (hc:qabj T g vs H1 v H2):OpSem T n0 o (AOp.call x q).reads E H v H2:=by
 intro a w M μ K Q hn hs hE hK;obtain⟨dst,cop,ty,pos,after,guard⟩:=o;simp only at hop;obtain⟨f,args,argTypes,hcop,h1,h2⟩:=qadp hop;subst hcop;simp only[AOp.reads]at hE;have hf:=cX_on hs.tab h1 (a:=a) (E:=E) fun t ht=>hE t (List.mem_append_left _ ht)
 have ha:=qafg hs.tab args.toList h2 (a:=a) (E:=E) fun t ht=>hE t (List.mem_append_right _ ht)
 rw[hx]at hf;obtain⟨fid,cs,hfv,hg,hcs⟩:=hf.inv_fn;obtain⟨hlen,hc⟩:=hc;obtain⟨fn,h5,h6,h7,h8⟩:=hc fid hg;have hall:=Rs.append ha hcs;have hprep:∃M1,Step T.gid n0 w M μ H w M1 μ H1/\Rs T.gid w M1 μ (args.toList.map a.eval++cs.toList) vs/\H1.length=H.length:=by
  unfold prep at hp;split at hp
  ·split at hp
   ·injection hp with hp;injection hp with hp1 hp2
    subst hp1;subst hp2;exact⟨M,.refl hs,hall,rfl⟩
   ·exact qm7 _ hs hp hall
  ·exact qm7 _ hs hp hall
 obtain⟨M1,st1,hrs,hl1⟩:=hprep;have hcall:=h8 w M1 μ _ st1.sim hrs;have hb:fn.body.isNone=false:=by cases hq:fn.body<;>simp[hq]at h7 ⊢
 have hrun:(execOp a.eval ⟨dst,.call ⟨.value f,args,argTypes⟩,ty,pos,after,guard⟩).run T.P w=.ok (.enter fid (args.map a.eval++cs)) w:=by
  simp only[execOp,resolve,hfv,Deferred.ofValue,pure_bind,invoke,callFunc,Sem.run_bind,run_program,Result.andThen_ok,h5,Array.empty_append];have e1 : (fn.name == "runtime.NumGoroutine") = false := by simpa using h6
  simp[e1,hb]
 unfold Oper.wp;rw[hrun];simp only[Oper.upon];have harr:(args.toList.map a.eval++cs.toList).toArray=args.map a.eval++cs:=by
  apply Array.ext';simp
 rw[harr]at hcall;refine hcall.mono fun e w' he=>?_
 obtain⟨v',M',μ',rfl,st2,hr⟩:=he;exact hK v' w' M' μ' (st1.trans ⟨st2.sim,st2.ext,st2.len,st2.size,st2.frame,st2.shape,st2.sub,st2.keepM,st2.fresh,st2.wrmono,st2.alv,fun n hn'=>st2.low n (by omega),st2.os,st2.tape,st2.output⟩) hr
end Go.Abs
namespace Go.Abs
variable {T : Tab} {S : AProg}
theorem q1c {w:World}{M:Nat->Prop}{μ:Inj}{H:Heap}(hs:Sim T.gid w M μ H){tmps:Array Value}{E:Env}(hE:ERel T.gid w M μ tmps E){r:ResultVar}{c:RV}(hc:cRV T r=some c){v:V}(h:resV1 E H c=some v) :
 ∃v',(match r with| .tmp t=>pure (tmps.getD t Go.undef)| .cell a t=>do loadVar t (<-asAddr (tmps.getD a Go.undef)):Sem Value).run T.P w=.ok v' w/\R T.gid w M μ v' v:=by
 cases r with
 |tmp t=>
  simp only[cRV]at hc;injection hc with hc;subst hc
  simp only[resV1]at h;injection h with h;subst h
  exact⟨_,rfl,hE t⟩
 |cell a t=>
  simp only[cRV]at hc;obtain⟨ag,h1,hc⟩:=qaa hc;obtain⟨z,h2,rfl⟩:=qac hc;simp only[resV1]at h;obtain⟨⟨v1,Ha⟩,h3,h4⟩:=qac h;simp only at h4;subst h4;have hx:=hE a;simp only[stp,getX]at h3;split at h3
  ·rename_i cs hg;rw[hg]at hx;obtain⟨v1,h4,h5⟩:=qac h3;injection h5 with h5 h6;subst h5;subst h6
   obtain⟨ad,he,hp⟩:=hx.inv_eptr;obtain⟨v',h7,h8⟩:=qju h1 h2 (qvj (μ:=μ) hp) h4;exact⟨v',by simp only[he,asAddr,pure_bind];exact h7,h8⟩
  ·rename_i b i off hg;rw[hg]at hx;split at h3
   ·rename_i k hk;split at h3
    ·rename_i e he;obtain⟨v1,h4,h5⟩:=qac h3;injection h5 with h5 h6;subst h5;subst h6
     obtain⟨c,base,zb,hμ,hv⟩:=hx.inv_ptr;obtain⟨v',h7,h8⟩:=qju h1 h2 (qz7 hs hμ hk he) h4;exact⟨v',by simp only[hv,asAddr,pure_bind];exact h7,h8⟩
    ·cases h3
   ·cases h3
  ·cases h3
theorem qrr {w:World}{M:Nat->Prop}{μ:Inj}{H:Heap}(hs:Sim T.gid w M μ H){tmps:Array Value}{E:Env}(hE:ERel T.gid w M μ tmps E):∀(rs:List ResultVar) {cs:List RV} (_:cRVs T rs=some cs) {vs:List V} (_:resVs E H cs=some vs),
 ∃vs',(rs.mapM fun r=>(match r with| .tmp t=>pure (tmps.getD t Go.undef)| .cell a t=>do loadVar t (<-asAddr (tmps.getD a Go.undef)):Sem Value)).run T.P w=.ok vs' w/\Rs T.gid w M μ vs' vs
 | [],cs,hc,vs,h=>by
  simp only[cRVs]at hc;injection hc with hc;subst hc
  simp only[resVs]at h;injection h with h;subst h
  exact⟨[],rfl,rfl,by simp⟩
 |r :: rs,cs,hc,vs,h=>by
  simp only[cRVs]at hc;obtain⟨c,h1,hc⟩:=qaa hc;obtain⟨cs',h2,h3⟩:=qaa hc;injection h3 with h3;subst h3
  simp only[resVs]at h;obtain⟨v,h4,h⟩:=qaa h;obtain⟨vs',h5,h6⟩:=qaa h;injection h6 with h6;subst h6
  obtain⟨x,g1,g2⟩:=q1c hs hE h1 h4;obtain⟨xs,g3,g4⟩:=qrr hs hE rs h2 h5;refine⟨x :: xs,?_,Rs.cons g2 g4⟩;rw[List.mapM_cons];simp only[Sem.run_bind,g1,Result.andThen_ok,g3,Sem.run_pure]
theorem q5l {w:World}{M:Nat->Prop}{μ:Inj}{H:Heap}(hs:Sim T.gid w M μ H){fn:Func}{tmps:Array Value}{E:Env}(hE:ERel T.gid w M μ tmps E){cs:List RV}(hc:cRVs T fn.results.toList=some cs){v:V}(h:resV E H cs=some v) :
 ∃v',(results fn tmps).run T.P w=.ok v' w/\R T.gid w M μ v' v:=by
 unfold resV at h;obtain⟨vs,h1,h2⟩:=qac h;obtain⟨xs,g1,g2⟩:=qrr hs hE _ hc h1;have hrun:(fn.results.mapM fun r=>(match r with| .tmp t=>pure (tmps.getD t Go.undef)| .cell a t=>do loadVar t (<-asAddr (tmps.getD a Go.undef)):Sem Value)).run T.P w=.ok xs.toArray w:=by
  rw[Array.mapM_eq_mapM_toList];simp only[Sem.run_map,g1,Result.andThen_ok]
 refine⟨if h:xs.toArray.size=1 then xs.toArray[0]else .tuple xs.toArray,?_,?_⟩
 ·unfold results;rw[Sem.run_bind]
  erw [hrun]
  rfl
 ·have hl:=g2.1
  match vs,xs,h2,hl,g2 with
  | [v0],[x0],h2,_,g2=>
   simp only at h2;subst h2;simp only[List.size_toArray,List.length_singleton,dite_true,List.getElem_toArray,List.getElem_cons_zero];exact g2.2 0 x0 v0 rfl rfl
  | [],[],h2,_,g2=>
   simp only at h2;subst h2;exact .tup #[] [] rfl (by simp)
  |v0 :: v1 :: vs,x0 :: x1 :: xs,h2,_,g2=>
   simp only at h2;subst h2;rw[dif_neg (by simp)];exact .tup _ _ (by simpa using g2.1) (fun i x y hx hy=>g2.2 i x y (by simpa using hx) hy)
theorem qva {n0 nt:Nat}{w w1:World}{M M1:Nat->Prop}{μ μ1:Inj}{H H1:Heap}{x:AX}{E':Env}{H':Heap}{Q:Exit->Act->World->Prop}(h:Ends T n0 nt w M μ H x E' H' Q)(st:Step T.gid n0 w M μ H w1 M1 μ1 H1):Ends T n0 nt w1 M1 μ1 H1 x E' H' Q:=
 fun a' w' M' μ' s2 hE hd hn=>h a' w' M' μ' (st.trans s2) hE hd hn
theorem qdi {n0:Nat}{c:AC}{E:Env}{H:Heap}{x:AX}{E':Env}{H':Heap}(hl:H.length<=H'.length)(hc:∀c',c≠.loop c')
 (h:∀(nt:Nat) (C:Code) (a:Act) (w:World) (M:Nat->Prop) (μ:Inj) (Q:Exit->Act->World->Prop),comp T nt C=some c->n0<=H.length->nt<=a.tmps.size->Sim T.gid w M μ H->ERel T.gid w M μ a.tmps E->a.defers=[] ->
  Ends T n0 nt w M μ H x E' H' Q->C.wp T.P Q a w):qabh T n0 c E H x E' H':=⟨hl,h,fun c' e=>absurd e (hc c')⟩
theorem qw2 {H:Heap}{c c':V}{H1:Heap}(h:frzC H c=some (c',H1)):H1.length=H.length:=(qss (acc:=[]) h).2
theorem qzl : ∀(cs:List V) {H:Heap} {cs':List V} {H1:Heap},frzCs H cs=some (cs',H1)->H1.length=H.length
 | [],H,cs',H1,h=>by simp only[frzCs]at h;injection h with h;injection h with _ h;rw[h]
 |c :: cs,H,cs',H1,h=>by
  simp only[frzCs]at h;obtain⟨⟨c',Ha⟩,h1,h⟩:=qaa h;obtain⟨⟨cs'',Hb⟩,h2,h3⟩:=qaa h;injection h3 with h3;injection h3 with _ h4
  rw[<-h4,qzl cs h2,qw2 h1]
theorem q3z {H:Heap}{c c':V}{H1:Heap}(h:frzV H c=some (c',H1)):H1.length=H.length:=by
 cases c<;>simp only[frzV]at h<;>first
  |exact qw2 h
  | (obtain⟨⟨cs',Ha⟩,h1,h2⟩:=qaa h
     injection h2 with h2;injection h2 with _ h3
     rw[<-h3];exact qzl _ h1)
theorem qsq : ∀(cs:List V) {H:Heap} {cs':List V} {H1:Heap},frzVs H cs=some (cs',H1)->H1.length=H.length
 | [],H,cs',H1,h=>by simp only[frzVs]at h;injection h with h;injection h with _ h;rw[h]
 |c :: cs,H,cs',H1,h=>by
  simp only[frzVs]at h;obtain⟨⟨c',Ha⟩,h1,h⟩:=qaa h;obtain⟨⟨cs'',Hb⟩,h2,h3⟩:=qaa h;injection h3 with h3;injection h3 with _ h4
  rw[<-h4,qsq cs h2,q3z h1]
theorem qpd {H:Heap}{c c':V}{H1:Heap}(h:qbv H c=some (c',H1)):H1.length=H.length:=by
 simp only[qbv]at h;obtain⟨⟨c1,Ha⟩,h1,h2⟩:=qaa h;simp only[]at h2;split at h2
 ·injection h2 with h2;injection h2 with _ h3;rw[<-h3];exact q3z h1
 ·cases h2
theorem qm4 : ∀(cs:List V) {H:Heap} {cs':List V} {H1:Heap},qce H cs=some (cs',H1)->H1.length=H.length
 | [],H,cs',H1,h=>by simp only[qce]at h;injection h with h;injection h with _ h;rw[h]
 |c :: cs,H,cs',H1,h=>by
  simp only[qce]at h;obtain⟨⟨c',Ha⟩,h1,h⟩:=qaa h;obtain⟨⟨cs'',Hb⟩,h2,h3⟩:=qaa h;injection h3 with h3;injection h3 with _ h4
  rw[<-h4,qm4 cs h2,qpd h1]
theorem q3j {n0:Nat}{H acc:Heap}{c c':V}{H1 acc1:Heap}(h:ownC n0 H acc c=some (c',H1,acc1)):H1.length=H.length:=by
 have other:(frzC H c).bind (fun(c',H1)=>if c'.cellPure=true then some (c',H1,acc)else none)=some (c',H1,acc1)->H1.length=H.length:=by
  intro h;obtain⟨⟨c1,Ha⟩,h1,h2⟩:=qaa h;simp only[]at h2;split at h2
  ·injection h2 with h2;injection h2 with _ h3;injection h3 with h3 _;rw[<-h3];exact qw2 h1
  ·cases h2
 cases c
 case nil=>
  simp only[ownC]at h;injection h with h;injection h with _ h3;injection h3 with h3 _;rw[<-h3]
 case ref b z off len=>
  simp only[ownC]at h;split at h
  ·split at h
   ·injection h with h;injection h with _ h3;injection h3 with h3 _;rw[<-h3];simp
   ·split at h
    ·injection h with h;injection h with _ h3;injection h3 with h3 _;rw[<-h3]
    ·cases h
  ·cases h
 all_goals exact other h
theorem qyq {n0:Nat}:∀(cs:List V) {H acc:Heap} {cs':List V} {H1 acc1:Heap},ownCs n0 H acc cs=some (cs',H1,acc1)->H1.length=H.length
 | [],H,acc,cs',H1,acc1,h=>by simp only[ownCs]at h;injection h with h;injection h with _ h;injection h with h _;rw[h]
 |c :: cs,H,acc,cs',H1,acc1,h=>by
  simp only[ownCs]at h;obtain⟨⟨c',Ha,aa⟩,h1,h⟩:=qaa h;obtain⟨⟨cs'',Hb,ab⟩,h2,h3⟩:=qaa h;injection h3 with h3;injection h3 with _ h4;injection h4 with h4 _
  rw[<-h4,qyq cs h2,q3j h1]
theorem q3i {n0:Nat}{H acc:Heap}{c c':V}{H1 acc1:Heap}(h:ownV n0 H acc c=some (c',H1,acc1)):H1.length=H.length:=by
 cases c<;>simp only[ownV]at h<;>first
  |exact q3j h
  | (obtain⟨⟨cs',Ha,aa⟩,h1,h2⟩:=qaa h
     injection h2 with h2;injection h2 with _ h3;injection h3 with h3 _
     rw[<-h3];exact qyq _ h1)
theorem qyp {n0:Nat}:∀(cs:List V) {H acc:Heap} {cs':List V} {H1 acc1:Heap},ownVs n0 H acc cs=some (cs',H1,acc1)->H1.length=H.length
 | [],H,acc,cs',H1,acc1,h=>by simp only[ownVs]at h;injection h with h;injection h with _ h;injection h with h _;rw[h]
 |c :: cs,H,acc,cs',H1,acc1,h=>by
  simp only[ownVs]at h;obtain⟨⟨c',Ha,aa⟩,h1,h⟩:=qaa h;obtain⟨⟨cs'',Hb,ab⟩,h2,h3⟩:=qaa h;injection h3 with h3;injection h3 with _ h4;injection h4 with h4 _
  rw[<-h4,qyp cs h2,q3i h1]
theorem qahg {own:Bool}{n0:Nat}{H:Heap}{v v2:V}{H2:Heap}(hl:n0<=H.length)(h:fin own n0 H v=some (v2,H2)):n0<=H2.length:=by
 unfold fin at h;cases own with
 |true=>
  simp only[if_true]at h;split at h
  ·obtain⟨⟨vs',H1,acc⟩,h1,h2⟩:=qaa h;injection h2 with h2;injection h2 with _ h3
   have:=qyp _ h1;rw[<-h3];simp;omega
  ·obtain⟨⟨vs',H1,acc⟩,h1,h2⟩:=qaa h;injection h2 with h2;injection h2 with _ h3
   have:=q3i h1;rw[<-h3];simp;omega
 |false=>
  simp only[Bool.false_eq_true,if_false]at h;split at h
  ·obtain⟨⟨vs',H1⟩,h1,h2⟩:=qaa h;injection h2 with h2;injection h2 with _ h3
   have:=qm4 _ h1;rw[<-h3];simp;omega
  ·obtain⟨⟨v',H1⟩,h1,h2⟩:=qaa h;injection h2 with h2;injection h2 with _ h3
   have:=qpd h1;rw[<-h3];simp;omega
theorem qrl {n0 z:Nat}{x y:V}{H:Heap}{v:V}{H1:Heap}(h:qjq n0 z x y H=some (v,H1)):H.length<=H1.length:=by
 unfold qjq at h;split at h
 ·split at h
  ·split at h
   ·obtain⟨⟨v1,Ha⟩,h1,h⟩:=qaa h;have hla:Ha.length=H.length:=by
     split at h1
     ·exact qpd h1
     ·injection h1 with h1;injection h1 with _ h1;rw[h1]
    simp only[]at h;split at h
    ·split at h
     ·split at h
      ·injection h with h;injection h with _ h;rw[<-h];simp[hla]
      ·cases h
     ·cases h
    ·cases h
   ·cases h
  ·cases h
 ·cases h
theorem q7n {n0:Nat}{op:AOp}{E:Env}{H:Heap}{v:V}{H1:Heap}(h:stp n0 op E H=some (v,H1)):H.length<=H1.length:=by
 by_cases hl:op.loud=false
 ·by_cases hs:∃ag z t,op=.sload ag z t
  ·obtain⟨ag,z,t,rfl⟩:=hs;simp only[stp]at h;split at h
   ·obtain⟨u,_,h⟩:=qac h;injection h with _ h;rw[h];exact Nat.le_refl _
   ·split at h
    ·split at h
     ·obtain⟨u,_,h⟩:=qaa h;split at h
      ·injection h with h;injection h with _ h;rw[h];exact Nat.le_refl _
      ·cases h
     ·cases h
    ·cases h
   ·cases h
  ·rw[(qx4 hl (fun ag z t e=>hs ⟨ag,z,t,e⟩) h).1];exact Nat.le_refl _
 ·cases op<;>try(exact absurd rfl hl)
  case box z x=>
   simp only[stp]at h;split at h
   ·injection h with h;injection h with _ h;rw[<-h];simp
   ·cases h
  case new z x=>
   simp only[stp]at h;split at h
   ·injection h with h;injection h with _ h;rw[<-h];simp
   ·cases h
  case bslice z len zero ps=>
   simp only[stp]at h;split at h
   ·obtain⟨⟨vs,Ha⟩,h1,h⟩:=qaa h;obtain⟨el,h2,h3⟩:=qac h;injection h3 with _ h3
    rw[<-h3];simp[qm4 _ h1]
   ·cases h
  case load ag z x=>
   simp only[stp]at h;split at h
   ·obtain⟨q,h1,h2⟩:=qac h;injection h2 with _ h2;rw[h2];exact Nat.le_refl _
   ·split at h
    ·split at h
     ·obtain⟨q,h1,h2⟩:=qac h;injection h2 with _ h2;rw[h2];exact Nat.le_refl _
     ·cases h
    ·cases h
   ·cases h
  case store z x y=>exact qrl (by simpa only[stp]using h)
  case storeN z x y av=>
   simp only[stp]at h;split at h
   ·exact qrl h
   ·cases h
  case mkslice z b zero l c=>
   simp only[stp]at h;split at h
   ·split at h
    ·injection h with h;injection h with _ h;rw[<-h];simp
    ·cases h
   ·cases h
  case appendZ z b zero x m=>
   simp only[stp]at h;split at h
   ·split at h
    ·injection h with h;injection h with _ h;rw[<-h];simp
    ·cases h
   ·cases h
  case append z b x y=>
   simp only[stp]at h;obtain⟨ys,h1,h⟩:=qaa h;split at h
   ·split at h
    ·split at h
     ·injection h with h;injection h with _ h;rw[h];exact Nat.le_refl _
     ·split at h
      ·injection h with h;injection h with _ h;rw[<-h];simp
      ·cases h
    ·split at h
     ·split at h
      ·split at h
       ·injection h with h;injection h with _ h;rw[h];exact Nat.le_refl _
       ·injection h with h;injection h with _ h;rw[<-h];simp
      ·cases h
     ·cases h
    ·cases h
   ·cases h
  case copy z x y=>
   simp only[stp]at h;split at h
   ·obtain⟨ys,h1,h⟩:=qaa h;split at h
    ·split at h
     ·injection h with h;injection h with _ h;rw[<-h];simp
     ·cases h
    ·cases h
   ·cases h
  case call x q=>simp[stp]at h
theorem qaci {g:Nat}{H:Heap}{args vs:List V}{H1:Heap}(h:prep S g H args=some (vs,H1)):H1.length=H.length:=by
 unfold prep at h;split at h
 ·split at h
  ·injection h with h;injection h with _ h;rw[h]
  ·exact qsq _ h
 ·exact qsq _ h
theorem q05 (bits:List Nat)(l:List AOper)(i:Nat)(o:AOper):Soft (q27 bits l i o) o.op:=by
 unfold q27;split
 ·rename_i ag z t h;rw[h];split
  ·exact .load ag z t
  ·exact .refl _
 ·rename_i z a x h;rw[h];split
  ·exact .refl _
  ·exact .store z a x _
 ·rename_i z len zero parts h;rw[h];split
  ·rename_i els hl;split
   ·exact .lit hl
   ·exact .refl _
  ·exact .refl _
 ·exact .refl _
theorem q14 (late:Bool)(bits:List Nat)(l:List AOper):(qm8 late bits l).length=l.length:=by simp[qm8,qx9]
theorem qzp (bits:List Nat)(l:List AOper):(qer bits l).length=l.length:=by
 unfold qer;split
 ·simp[qov,qrm]
 ·split<;>exact q14 _ _ _
theorem q15 {late:Bool}{bits:List Nat}{l:List AOper}{i:Nat}{ao:AOper}(h:(qm8 late bits l)[i]?=some ao):∃a0 sy op,l[i]?=some a0/\Soft op a0.op/\ao={ a0 with sync:=sy,op:=op }:=by
 unfold qm8 at h;rw[List.getElem?_mapIdx]at h;obtain⟨a1,h1,h2⟩:=qac h;unfold qx9 at h1;rw[List.getElem?_mapIdx]at h1;obtain⟨a0,h3,h4⟩:=qac h1;exact⟨a0,qx1 late bits (qx9 bits l) i a1,q27 bits l i a0,h3,q05 bits l i a0,by rw[<-h2,<-h4]⟩
theorem qya (bits:List Nat)(l:List AOper)(i:Nat)(o:AOper):Soft (qvz bits l i o) o.op:=by
 unfold qvz;split
 ·rename_i h;rw[h];split
  ·exact .load _ _ _
  ·exact .refl _
 ·rename_i h;rw[h];split
  ·exact .plit _ _ _ _
  ·exact .refl _
 ·exact .refl _
theorem qzo {bits:List Nat}{l:List AOper}{i:Nat}{ao:AOper}(h:(qov bits l)[i]?=some ao):∃a0 sy op,l[i]?=some a0/\Soft op a0.op/\ao={ a0 with sync:=sy,op:=op }:=by
 unfold qov at h;rw[List.getElem?_mapIdx]at h;obtain⟨a1,h1,h2⟩:=Option.map_eq_some_iff.1 h;unfold qrm at h1;rw[List.getElem?_mapIdx]at h1;obtain⟨a0,h3,h4⟩:=Option.map_eq_some_iff.1 h1;exact⟨a0,qx1 false bits (qrm bits l) i a1,qvz bits l i a0,h3,qya bits l i a0,by rw[<-h2,<-h4]⟩
theorem qzq {bits:List Nat}{l:List AOper}{i:Nat}{ao:AOper}(h:(qer bits l)[i]?=some ao):∃a0 sy op,l[i]?=some a0/\Soft op a0.op/\ao={ a0 with sync:=sy,op:=op }:=by
 unfold qer at h;split at h
 ·exact qzo h
 ·split at h<;>exact q15 h
theorem qr3 {ops:Array Oper}{os:List Oper}{o:Oper}{l:List AOper}{ao:AOper}(h:∀(i:Nat) (x:Oper) (y:AOper),(o :: os)[i]?=some x->(ao :: l)[i]?=some y->Link T ops x y) :
 Link T ops o ao/\∀(i:Nat) (x:Oper) (y:AOper),os[i]?=some x->l[i]?=some y->Link T ops x y:=
 ⟨h 0 o ao rfl rfl,fun i x y hx hy=>h (i+1) x y (by simpa using hx) (by simpa using hy)⟩
theorem qalp {w:World}{M:Nat->Prop}{μ:Inj}{vs:List Value}{args:List V}(h:Rs T.gid w M μ vs args)(n:Nat):ERel T.gid w M μ (vs.toArray++Array.replicate n Go.undef) (E0 args):=by
 intro t;unfold E0;rw[Array.getD_eq_getD_getElem?,List.getD_eq_getElem?_getD];by_cases ht:t<vs.length
 ·have ht':t<args.length:=by rw[<-h.1];exact ht
  rw[Array.getElem?_append_left (by simpa using ht)];simp only[List.getElem?_toArray,List.getElem?_eq_getElem ht,List.getElem?_eq_getElem ht',Option.getD_some];exact h.2 t _ _ (List.getElem?_eq_getElem ht) (List.getElem?_eq_getElem ht')
 ·have ht':¬t<args.length:=by rw[<-h.1];exact ht
  rw[List.getElem?_eq_none (by omega),Array.getElem?_append_right (by simp;omega),Array.getElem?_replicate];split<;>exact R.undef
theorem Rs.emp {gid:Gid}{w:World}{M:Nat->Prop}{μ:Inj}{vs:List Value}{pre post:List V}(h:Rs gid w M μ vs (pre++.sl [] :: post)):Rs gid w M μ vs (pre++.nil :: post)\/Rs gid w M μ vs (pre++.emp :: post):=by
 have hlt:pre.length<vs.length:=by have:=h.1;simp at this;omega
 have hr:R gid w M μ vs[pre.length] (.sl []):=h.2 pre.length _ _ (List.getElem?_eq_getElem hlt) (by simp);have key:∀{b:V},R gid w M μ vs[pre.length] b->Rs gid w M μ vs (pre++b :: post):=by
  intro b hb;refine⟨by simpa using h.1,fun i v c hv hc=>?_⟩;by_cases hi:i=pre.length
  ·subst hi;simp at hc;subst hc;rw[List.getElem?_eq_getElem hlt]at hv;injection hv with hv
   subst hv;exact hb
  ·refine h.2 i v c hv ?_;rw[<-hc];by_cases hlt:i<pre.length
   ·rw[List.getElem?_append_left hlt,List.getElem?_append_left hlt]
   ·rw[List.getElem?_append_right (by omega),List.getElem?_append_right (by omega)];have⟨k,hk⟩:∃k,i-pre.length=k+1:=⟨i-pre.length-1,by omega⟩
    rw[hk];rfl
 have:∀{v:Value},R gid w M μ v (.sl [])->R gid w M μ v .nil\/R gid w M μ v .emp:=by
  intro v hr;cases hr with
  |c hr=>cases hr with
   |p hr=>
    rcases hr.sl_emp with h1|h1
    ·exact .inl (.c (.p h1))
    ·exact .inr (.c (.p h1))
 rcases this hr with h1|h1
 ·exact .inl (key h1)
 ·exact .inr (key h1)
theorem qjf {P:Program}{b:Frame}{a:Act}{k:List Item}{cs:List Frame}{w:World}{c:Code} :
 step P (lone (b.at a (.code (.scope c) :: k)) cs w)=.next (lone (b.at a (.code c :: .inScope c :: k)) cs w):=
 step_lone_go (by simp[stepG,stepG.exec,Frame.at])
theorem qx6 {P:Program}{b:Frame}{a:Act}{k:List Item}{cs:List Frame}{w:World}{c:Code} :
 step P (lone (b.at a (.inScope c :: k)) cs w)=.next (lone (b.at a k) cs w):=
 step_lone_go (by simp[stepG,stepG.exec,Frame.at])
theorem qabq {P:Program}{Q:Exit->Act->World->Prop}{a:Act}{w:World}{c:Code}(h:c.wp P (fun e a w=>Q e a w/\∀l,e≠.goto l) a w):(Code.scope c).wp P Q a w:=by
 intro b k cs;obtain⟨e,a₁,w₁,⟨hq,hg⟩,harr⟩:=h b (.inScope c :: k) cs;refine⟨e,a₁,w₁,hq,?_⟩;cases e with
 |normal=>exact .head qjf (Steps.trans harr (.one qx6))
 |exit id=>exact fun k' hk=>.head qjf (harr k' (by simpa[exitTo]using hk))
 |goto l=>exact absurd rfl (hg l)
 |ret=>exact .of_steps (.one qjf) harr
 |panic ch=>exact .of_steps (.one qjf) harr
 |outgrown=>exact .of_steps (b:=b) (k:=k) (cs:=cs) (e:=.outgrown) (.one qjf) harr
theorem sound (seat:Seat T S){t:Task}{r:Res}(h:Ev S t r):qalo T t r:=by
 induction h with
 |skip=>
  refine qdi (Nat.le_refl _) (by simp) fun nt C a w M μ Q hc hn ht hs hE hd he=>?_
  rcases qet hc with hC|⟨l,hC⟩
  ·rw[hC];exact wp_skip (he a w M μ (.refl hs) hE hd ht)
  ·rw[hC];exact wp_label (he a w M μ (.refl hs) hE hd ht)
 | @scope n0 cc E H x E1 H1 _ ih1=>
  refine qdi ih1.1 (by simp) fun nt C a w M μ Q hc hn ht hs hE hd he=>?_
  obtain⟨A,rfl,g1⟩:=qet hc;refine qabq (ih1.2.1 nt A a w M μ _ g1 hn ht hs hE hd fun a' w' M' μ' st hE' hd' ht'=>?_);refine⟨he a' w' M' μ' st hE' hd' ht',fun l h=>?_⟩;cases x<;>cases h
 | @seqN n0 ca cb E H E1 H1 r _ _ ih1 ih2=>
  cases r with
  |ret v H'=>trivial
  |cd x E' H'=>
   refine qdi (Nat.le_trans ih1.1 ih2.1) (by simp) fun nt C a w M μ Q hc hn ht hs hE hd he=>?_
   obtain⟨A,B,rfl,g1,g2⟩:=qet hc;refine wp_seq (ih1.2.1 nt A a w M μ _ g1 hn ht hs hE hd fun a' w' M' μ' st hE' hd' ht'=>?_);exact ih2.2.1 nt B a' w' M' μ' Q g2 (by have:=ih1.1;omega) ht' st.sim hE' hd' (qva he st)
 | @seqX n0 ca cb E H x E1 H1 _ hx ih1=>
  refine qdi ih1.1 (by simp) fun nt C a w M μ Q hc hn ht hs hE hd he=>?_
  obtain⟨A,B,rfl,g1,g2⟩:=qet hc;refine wp_seq (ih1.2.1 nt A a w M μ _ g1 hn ht hs hE hd fun a' w' M' μ' st hE' hd' ht'=>?_);have:=he a' w' M' μ' st hE' hd' ht';cases x with
  |normal=>exact absurd rfl hx
  |exit id=>exact this
  |ret=>exact this
 | @cond n0 cx ca cb E H t r hcx _ ih1=>
  cases r with
  |ret v H'=>trivial
  |cd x E' H'=>
   refine qdi ih1.1 (by simp) fun nt C a w M μ Q hc hn ht hs hE hd he=>?_
   obtain⟨X,A,B,rfl,g0,g1,g2⟩:=qet hc;have hxr:=qaj hs.tab g0 hE;rw[hcx]at hxr;refine wp_cond hxr.inv_bool ?_;cases t with
   |true=>exact ih1.2.1 nt A a w M μ Q g1 hn ht hs hE hd he
   |false=>exact ih1.2.1 nt B a w M μ Q g2 hn ht hs hE hd he
 | @block n0 id cc E H x E1 H1 _ ih1=>
  refine qdi ih1.1 (by simp) fun nt C a w M μ Q hc hn ht hs hE hd he=>?_
  obtain⟨A,rfl,g1⟩:=qet hc;refine wp_block (ih1.2.1 nt A a w M μ _ g1 hn ht hs hE hd fun a' w' M' μ' st hE' hd' ht'=>?_);have:=he a' w' M' μ' st hE' hd' ht';cases x with
  |normal=>exact this
  |ret=>exact this
  |exit id'=>
   simp only[AX.toExit,Exit.inBlock,AX.outOf]at this ⊢;split
   ·rename_i e;rw[if_pos e]at this;exact this
   ·rename_i e;rw[if_neg e]at this;exact this
 | @loopN n0 cc E H E1 H1 r _ _ ih1 ih2=>
  cases r with
  |ret v H'=>trivial
  |cd x E' H'=>
   obtain⟨n,hn2⟩:=ih2.2.2 cc rfl;have rounds:∀(nt:Nat) (C:Code) (a:Act) (w:World) (M:Nat->Prop) (μ:Inj) (Q:Exit->Act->World->Prop),comp T nt C=some cc->n0<=H.length->nt<=a.tmps.size->Sim T.gid w M μ H->ERel T.gid w M μ a.tmps E->a.defers=[] ->
    Ends T n0 nt w M μ H x E' H' Q->Code.rounds T.P C Q (n+1) a w:=by
    intro nt C a w M μ Q hc hn ht hs hE hd he;rw[rounds_succ];refine ih1.2.1 nt C a w M μ _ hc hn ht hs hE hd fun a' w' M' μ' st hE' hd' ht'=>?_
    exact hn2 nt C a' w' M' μ' Q hc (by have:=ih1.1;omega) ht' st.sim hE' hd' (qva he st)
   refine⟨Nat.le_trans ih1.1 ih2.1,fun nt C a w M μ Q hc hn ht hs hE hd he=>?_,fun c' e=>by injection e with e;subst e;exact⟨n+1,rounds⟩⟩;obtain⟨A,rfl,g1⟩:=qet hc;exact wp_loop_rounds (n+1) (rounds nt A a w M μ Q g1 hn ht hs hE hd he)
 | @loopX n0 cc E H x E1 H1 _ hx ih1=>
  have rounds:∀(nt:Nat) (C:Code) (a:Act) (w:World) (M:Nat->Prop) (μ:Inj) (Q:Exit->Act->World->Prop),comp T nt C=some cc->n0<=H.length->nt<=a.tmps.size->Sim T.gid w M μ H->ERel T.gid w M μ a.tmps E->a.defers=[] ->
   Ends T n0 nt w M μ H x E1 H1 Q->Code.rounds T.P C Q (0+1) a w:=by
   intro nt C a w M μ Q hc hn ht hs hE hd he;rw[rounds_succ];refine ih1.2.1 nt C a w M μ _ hc hn ht hs hE hd fun a' w' M' μ' st hE' hd' ht'=>?_
   have:=he a' w' M' μ' st hE' hd' ht';cases x with
   |normal=>exact absurd rfl hx
   |exit id=>exact this
   |ret=>exact this
  refine⟨ih1.1,fun nt C a w M μ Q hc hn ht hs hE hd he=>?_,fun c' e=>by injection e with e;subst e;exact⟨0+1,rounds⟩⟩;obtain⟨A,rfl,g1⟩:=qet hc;exact wp_loop_rounds (0+1) (rounds nt A a w M μ Q g1 hn ht hs hE hd he)
 |exit=>
  refine qdi (Nat.le_refl _) (by simp) fun nt C a w M μ Q hc hn ht hs hE hd he=>?_
  have hC:C=_:=qet hc;rw[hC];exact wp_exit (he a w M μ (.refl hs) hE hd ht)
 |ret=>
  refine qdi (Nat.le_refl _) (by simp) fun nt C a w M μ Q hc hn ht hs hE hd he=>?_
  have hC:C=_:=qet hc;rw[hC];exact wp_ret (he a w M μ (.refl hs) hE hd ht)
 | @region n0 d l E H E1 H1 _ ih1=>
  obtain⟨_,hlen,htr⟩:=ih1;refine qdi hlen (by simp) fun nt C a w M μ Q hc hn ht hs hE hd he=>?_
  obtain⟨id,ops,rfl,g1⟩:=qet hc;obtain⟨l0,g2,g3,g4⟩:=qtk g1;obtain⟨g5,g6⟩:=qvk _ g2;rcases g4 with ⟨rfl,g4⟩|⟨rfl,g4,g7,g8⟩
  ·injection g4 with _ g4
   subst g4;have tr:=htr ops ops.toList g5 fun i o ao h1 h2=>qvm (g6 i o ao h1 h2) ao.sync (.refl _)
   refine wp_region ?_;have:=tr.plain 0 (by simp) nt g3 a w M μ ht hn hs hE hd Q fun a' w' M' μ' st hE' hd' hsz=>he a' w' M' μ' st hE' hd' (by omega)
   rw[List.range_eq_range'];simpa using this
  ·injection g4 with _ g4
   subst g4;have gl:∀(i:Nat) (ao:AOper),(qer (qba ops.toList []) l0)[i]?=some ao->∃a0 sy op,l0[i]?=some a0/\Soft op a0.op/\ao={ a0 with sync:=sy,op:=op }:=fun i ao h=>qzq h
   have tr:=htr ops ops.toList (by rw[qzp];exact g5) fun i o ao h1 h2=>by
    obtain⟨a0,sy,op,h3,h4,h5⟩:=gl i ao h2;subst h5;exact qvm (g6 i o a0 h1 h3) _ h4
   obtain⟨Es,Hs,vs,hr,h1,h2,h3,h4⟩:=tr.run;have hds:qqm nt (qer (qba ops.toList []) l0)=true:=by
    unfold qqm;rw[List.all_eq_true];intro ao hao;obtain⟨i,hi⟩:=List.getElem?_of_mem hao;obtain⟨a0,sy,op,h5,_,h6⟩:=gl i ao hi;subst h6;exact List.all_eq_true.1 g3 a0 (List.mem_of_getElem? h5)
   have hst:Static ops.toList (qer (qba ops.toList []) l0):=by
    refine⟨fun i o hi=>?_,fun i o ao _ hao=>?_,fun i j a b hij ha hb=>?_⟩
    ·have hi':i<ops.size:=by
      have:=(List.getElem?_eq_some_iff.1 hi).1;simpa using this
     have:=List.all_eq_true.1 g7 i (List.mem_range.2 hi');have ho:ops[i]?=some o:=by simpa using hi
     simpa[ho]using this
    ·unfold qvb at g8;rw[Bool.and_eq_true]at g8;exact List.all_eq_true.1 g8.1 ao (List.mem_of_getElem? hao)
    ·have hj:j<(qer (qba ops.toList []) l0).length:=(List.getElem?_eq_some_iff.1 hb).1;unfold qvb at g8;rw[Bool.and_eq_true]at g8;have:=List.all_eq_true.1 g8.2 j (List.mem_range.2 hj);have:=List.all_eq_true.1 this i (List.mem_range.2 hij);rw[ha,hb]at this;exact this
   refine wp_region_any seat.mixed ?_;subst h1;subst h2;have hs':=hs.same (Same.drew w);obtain⟨e,hH⟩:=HInv.begin (D:=fun i=>(Array.replicate ops.size false).getD i false=true) (w0:=w) (M0:=M) (μ0:=μ) (w:=w.drew) (M:=M) (μ:=μ) (s:=0) hr (Nat.zero_le _) (fun j hj=>by omega)
    (fun j _ _ hD=>by
     rw[Array.getD_eq_getD_getElem?,Array.getElem?_replicate]at hD;split at hD<;>cases hD) (Step.same hs (Same.drew w))
   refine q9x hr hst hn Q hds (fun a' w' M' μ' st hE' hd' hsz=>he a' w' M' μ' (by rw[<-h4];exact st) (by rw[<-h3];exact hE') hd' hsz) ops.size _ a w.drew M μ 0 e (by simp) ?_ ?_ hH ?_ ht hd
   ·unfold left;refine Nat.le_trans (List.length_filter_le _ _) ?_;simp
   ·intro i o hD;have hD:(Array.replicate ops.size false).getD i false=true:=hD;rw[Array.getD_eq_getD_getElem?,Array.getElem?_replicate]at hD;split at hD<;>cases hD
   ·intro t;refine .inr ⟨fun j _ hD=>?_,?_⟩
    ·have hD:(Array.replicate ops.size false).getD j false=true:=hD;rw[Array.getD_eq_getD_getElem?,Array.getElem?_replicate]at hD;split at hD<;>cases hD
    ·refine(hE t).mono ((Same.drew w).keep M) (Same.drew w).shape fun b x hx=>?_
     unfold cutM;rw[if_pos (hs.dom b x hx)];exact hx
 |opNil=>
  refine⟨rfl,Nat.le_refl _,fun ops os hl _=>?_⟩;have:os=[]:=List.eq_nil_of_length_eq_zero (by simpa using hl);subst this;exact .nil
 | @opSkip n0 d o l E H r hg _ ih1=>
  cases r with
  |ret v H'=>trivial
  |cd x E' H'=>
   obtain⟨hx,hlen,htr⟩:=ih1;refine⟨hx,hlen,fun ops os hl hk=>?_⟩;cases os with
   |nil=>simp at hl
   |cons oo os=>
    obtain⟨k1,k2⟩:=qr3 hk;exact .skip k1 hg (htr ops os (by simpa using hl) k2)
 | @opDo n0 d o l E H v H1 r hg hstp hpre _ ih1=>
  cases r with
  |ret v H'=>trivial
  |cd x E' H'=>
   obtain⟨hx,hlen,htr⟩:=ih1;refine⟨hx,Nat.le_trans (q7n hstp) hlen,fun ops os hl hk=>?_⟩;cases os with
   |nil=>simp at hl
   |cons oo os=>
    obtain⟨k1,k2⟩:=qr3 hk;obtain⟨op0,ko,ks⟩:=k1.op;refine .step k1 hg (qob ko ks hstp) (q7n hstp) hpre (fun hq=>?_) (fun z x y av e t ht b i off hE=>?_) (fun hk b k hb h1=>?_) (htr ops os (by simpa using hl) k2)
    ·by_cases hs:∃ag z t,o.op=.sload ag z t
     ·obtain⟨ag,z,t,e⟩:=hs;rw[e]at hstp ks ⊢;obtain⟨q1,q2⟩:=q1i ko ks hstp;exact⟨q1,q2.symm⟩
     ·obtain⟨q1,q2⟩:=qx4 hq (fun ag z t e=>hs ⟨ag,z,t,e⟩) hstp;exact⟨q1,.inl fun Hc=>qob ko ks (q2 Hc)⟩
    ·rw[e]at hstp;exact qvy hstp ht hE
    ·cases hop:o.op<;>rw[hop]at hk hstp<;>first| (cases hk;done)|exact q0l hstp hb h1
 | @opCall n0 d o l E H x xs g caps vs H1 v H2 r hg ho hx hp _ hpre _ ih1 ih2=>
  cases r with
  |ret v H'=>trivial
  |cd x' E' H'=>
   obtain⟨hxx,hlen,htr⟩:=ih2;have hl12:H.length<=H2.length:=by
    have:=qaci hp;have:=ih1.1;omega
   refine⟨hxx,Nat.le_trans hl12 hlen,fun ops os hl hk=>?_⟩;cases os with
   |nil=>simp at hl
   |cons oo os=>
    obtain⟨k1,k2⟩:=qr3 hk;obtain⟨op0,ko,ks⟩:=k1.op;have hop:cOp T oo.op=some (.call x xs):=by
     rw[ho]at ks;cases ks;exact ko
    refine .step k1 hg (by rw[ho];exact q5p hop hx hp ih1) hl12 hpre (fun hq=>?_) (fun z x y av e=>by rw[ho]at e;cases e) (fun hk=>by rw[ho]at hk;cases hk) (htr ops os (by simpa using hl) k2);rw[ho]at hq;cases hq
 | @call g f args H x E1 H1 v0 v H2 hf _ hx hres hfin ih1=>
  have hlen2:H.length<=H2.length:=qahg ih1.1 hfin;refine⟨hlen2,fun fid hg=>?_⟩;obtain⟨fn,C,s1,s2,s3,s4,s5⟩:=seat.fns fid g f hg hf;refine⟨fn,s1,s2,by rw[s3];rfl,fun w M μ vs hs hrs=>?_⟩;refine calls_of_wp s1 s3 ?_;have hE:=qalp hrs (fn.ntmps-vs.toArray.size);refine ih1.2.1 fn.ntmps C _ w M μ _ s4 (Nat.le_refl _) (by simp;omega) hs hE rfl fun a' w' M' μ' st hE' hd' ht'=>?_
  obtain⟨v',r1,r2⟩:=q5l st.sim hE' s5 hres;obtain⟨M2,μ2,st2,r3⟩:=q9r rfl (hs.lowH (Nat.le_refl _)) st r2 hfin;rcases hx with rfl|rfl
  ·exact⟨hd',v',r1,v',M2,μ2,rfl,st2,r3⟩
  ·exact⟨hd',v',r1,v',M2,μ2,rfl,st2,r3⟩
 | @emp g pre post H r _ _ ih1 ih2=>
  cases r with
  |cd x E' H'=>trivial
  |ret v H'=>
   refine⟨ih1.1,fun fid hg=>?_⟩;obtain⟨fn,h1,h2,h3,h4⟩:=ih1.2 fid hg;obtain⟨fn',h1',_,_,h5⟩:=ih2.2 fid hg;refine⟨fn,h1,h2,h3,fun w M μ vs hs hrs=>?_⟩;rcases hrs.emp with hr|hr
   ·exact h4 w M μ vs hs hr
   ·exact h5 w M μ vs hs hr
 | @prim g args H v hp=>
  refine⟨Nat.le_refl _,fun fid hg=>?_⟩;obtain⟨fn,s1,s2,s3,s4⟩:=seat.prims fid g args v H hg hp;exact⟨fn,s1,s2,s3,s4⟩
end Go.Abs
namespace Go.Abs
def gidOf (l:List Nat)(f:FuncId):Option Nat:=
 match l[f]? with
 |some 0=>none
 |some (n+1)=>some (n+1)
 |none=>none
def qx0 (l:List (Nat × List V))(g:Nat):Option (List V):=
 match l with
 | []=>none
 | (i,cs) :: l=>if g=i then some cs else qx0 l g
structure Row where
 fid:Nat
 gid:Nat
 fn:AFn
structure RowOk (T:Tab)(r:Row):Prop where
 ok:∃f,T.P.funcs[r.fid]?=some f/\compF T f=some (r.fn.results,r.fn.body)
theorem qaab {T:Tab}{f:Func}{rs:List RV}{b:AC}(h:compF T f=some (rs,b)) :
 f.name ≠ "runtime.NumGoroutine" ∧ ∃ C, f.body = some C ∧ comp T f.ntmps C = some b ∧ cRVs T f.results.toList = some rs := by
 unfold compF at h;split at h
 ·cases h
 ·rename_i hn;simp only[Option.bind_eq_some_iff,Option.map_eq_some_iff]at h;obtain⟨C,h1,c,h2,rs',h3,h4⟩:=h;injection h4 with h4 h5
  subst h4;subst h5;exact⟨hn,C,h1,h2,h3⟩
theorem q13 {T:Tab}{fns:List (Nat × AFn)}{S:AProg}{l:List Nat}(hg:T.gid=gidOf l)(hS:S.fn=look fns)(rows:List Row)
 (hok:∀r ∈ rows,RowOk T r)
 (hall:((List.range l.length).all fun i=>match gidOf l i with
  |none=>true
  |some g=>(fns.find? fun p=>p.1 == g).isNone ||rows.any fun r=>r.fid == i&&r.gid == g)=true)
 (hsame:∀r ∈ rows,look fns r.gid=some r.fn) :
 ∀ fid g f, T.gid fid = some g → S.fn g = some f → ∃ fn C, T.P.funcs[fid]? = some fn ∧ fn.name ≠ "runtime.NumGoroutine" ∧ fn.body = some C ∧ comp T fn.ntmps C = some f.body ∧ cRVs T fn.results.toList = some f.results := by
 intro fid g f h1 h2;rw[hg]at h1;rw[hS]at h2;have hlt:fid<l.length:=by
  unfold gidOf at h1;split at h1
  ·cases h1
  ·rename_i n hn;exact(List.getElem?_eq_some_iff.1 hn).1
  ·cases h1
 have h3:=List.all_eq_true.1 hall fid (List.mem_range.2 hlt);simp only[h1]at h3;have hf:∃p,fns.find? (fun p=>p.1 == g)=some p:=by
  unfold look at h2;cases hq:fns.find? (fun p=>p.1 == g)with
  |none=>rw[hq]at h2;cases h2
  |some p=>exact⟨p,rfl⟩
 obtain⟨p,hp⟩:=hf;rw[hp]at h3;simp only[Option.isNone_some,Bool.false_or,List.any_eq_true,Bool.and_eq_true,beq_iff_eq]at h3;obtain⟨r,hr,e1,e2⟩:=h3;subst e1;subst e2;have h4:=hsame r hr;rw[h4]at h2;injection h2 with h2
 subst h2;obtain⟨fn,h5,h6⟩:=(hok r hr).ok;obtain⟨h7,C,h8,h9,h10⟩:=qaab h6;exact⟨fn,C,h5,h7,h8,h9,h10⟩
open Go.ChangeShapes Go.RowKit
def RPs (gid:Gid)(w:World)(cs:List Value)(vs:List V):Prop:=
 cs.length=vs.length/\∀(i:Nat) (x:Value) (c:V),cs[i]?=some x->vs[i]?=some c->RP gid w (fun _=>False) x c
section
variable {H : Type} {enc : TypeId × Value → H} {P : Program} {w : World} {gid : Gid}
theorem RPs.nil : RPs gid w [] []:=⟨rfl,by simp⟩
theorem RPs.one {x:Value}{c:V}(h:RP gid w (fun _=>False) x c):RPs gid w [x] [c]:=by
 refine⟨rfl,fun i y d hy hd=>?_⟩;cases i with
 |zero=>simp at hy hd;subst hy;subst hd;exact h
 |succ i=>simp at hy
theorem RPs.append {a b:List Value}{c d:List V}(h:RPs gid w a c)(k:RPs gid w b d):RPs gid w (a++b) (c++d):=by
 refine⟨by simp[h.1,k.1],fun i x y hx hy=>?_⟩;by_cases hi:i<a.length
 ·rw[List.getElem?_append_left hi]at hx;rw[List.getElem?_append_left (by rw[<-h.1];exact hi)]at hy;exact h.2 i x y hx hy
 ·rw[List.getElem?_append_right (by omega)]at hx;rw[List.getElem?_append_right (by rw[<-h.1];omega),<-h.1]at hy;exact k.2 _ x y hx hy
def Rd (enc:TypeId × Value->H)(P:Program)(w:World)(gid:Gid)(t:TypeId)(Q:V->Prop):Prop:=
 ∀(fuel:Nat) (cs:List Value) (d:DataW H) (ps:List MemPlace),DataW.trod enc P w 0 (fun _=>true) true fuel t cs=some (d,ps)->∃v,Q v/\v.isTup=false/\RPs gid w cs v.cells
theorem Rd.mono {t:TypeId}{Q Q':V->Prop}(h:Rd enc P w gid t Q)(hq:∀v,Q v->Q' v):Rd enc P w gid t Q':=fun fuel cs d ps e=>by
 obtain⟨v,h1,h2,h3⟩:=h fuel cs d ps e;exact⟨v,hq v h1,h2,h3⟩
theorem q74 {t:TypeId}(ht:P.underlying t=some .bool):Rd enc P w gid t (fun v=>∃b,v=.bool b):=by
 intro fuel cs d ps h;cases fuel with
 |zero=>cases h
 |succ fuel=>
  unfold DataW.trod at h;rw[ht]at h;simp only at h;split at h<;>rename_i h1<;>try(cases h1;done)
  ·exact⟨_,⟨_,rfl⟩,rfl,.one (.bool _)⟩
  all_goals(try(simp at h1;done))
  cases h
theorem q3f {t:TypeId}{k:IntKind}(ht:P.underlying t=some (.int k)):Rd enc P w gid t (fun v=>∃n,v=.int k n/\k.min<=n/\n<=k.max):=by
 intro fuel cs d ps h;cases fuel with
 |zero=>cases h
 |succ fuel=>
  unfold DataW.trod at h;rw[ht]at h;simp only at h;split at h<;>rename_i h1<;>try(cases h1;done)
  ·injection h1 with h1;injection h1 with h1
   subst h1;split at h
   ·rename_i hc;obtain⟨rfl,hw⟩:=hc;simp only[Lit.wf,Bool.and_eq_true,decide_eq_true_eq]at hw;exact⟨_,⟨_,rfl,hw.1,hw.2⟩,rfl,.one (.int _ _)⟩
   ·cases h
  all_goals(try(simp at h1;done))
  cases h
theorem qyw {α β:Type}{f:α->Option β}:∀{l:List α} {r:List β},l.mapM f=some r->l.length=r.length/\∀(i:Nat) (a:α) (b:β),l[i]?=some a->r[i]?=some b->f a=some b:=by
 intro l;induction l with
 |nil=>intro r h;simp at h;subst h;exact⟨rfl,by simp⟩
 |cons x xs ih=>
  intro r h;rw[List.mapM_cons]at h;simp only[Option.bind_eq_bind,Option.bind_eq_some_iff,Option.pure_def,Option.some.injEq]at h;obtain⟨y,h1,ys,h2,h3⟩:=h;subst h3;obtain⟨e1,e2⟩:=ih h2;refine⟨by simp[e1],fun i a b ha hb=>?_⟩;cases i with
  |zero=>simp at ha hb;subst ha;subst hb;exact h1
  |succ i=>exact e2 i a b (by simpa using ha) (by simpa using hb)
theorem qs9 {α:Type}{R:Nat->α->Prop}:∀(n:Nat),(∀i,i<n->∃a,R i a)->∃l:List α,l.length=n/\∀(i:Nat) (a:α),l[i]?=some a->R i a
 |0,_=>⟨[],rfl,by simp⟩
 |n+1,h=>by
  obtain⟨l,h1,h2⟩:=qs9 (R:=R) n (fun i hi=>h i (by omega));obtain⟨a,ha⟩:=h n (by omega);refine⟨l++[a],by simp[h1],fun i b hb=>?_⟩;by_cases hi:i<l.length
  ·rw[List.getElem?_append_left hi]at hb;exact h2 i b hb
  ·have hin:i=n:=by
    have:=(List.getElem?_eq_some_iff.1 hb).1;simp at this;omega
   subst hin;rw[List.getElem?_append_right (by omega)]at hb;simp[h1]at hb;subst hb;exact ha
theorem qahw {a:Addr}{v:Value}(h:w.cell? a=some v):a.block<w.heap.size/\a.spot=none:=by
 unfold World.cell? at h;split at h
 ·rename_i c e fr hw;split at h
  ·cases h
  ·rename_i hs;exact⟨(Array.getElem?_eq_some_iff.1 hw).1,by cases hq:a.spot<;>simp[hq]at hs ⊢⟩
 ·cases h
theorem q4w {a:Addr}(h:a.spot=none)(n:Nat):a.add n=⟨a.block,a.off+n,none⟩:=by
 unfold Addr.add;split
 ·rename_i e;subst e;cases a;simp at h;subst h;rfl
 ·rfl
theorem qacf {t e:TypeId}{z:Nat}{Q:V->Prop}(ht:P.underlying t=some (.slice e))(hz:P.cellsOf e=z)(h0:0<z)(hQ:Rd enc P w gid e Q)(hlen:∀v,Q v->v.cells.length=z) :
 Rd enc P w gid t (fun v=>∃l:List V,v=.sl l/\(∀x ∈ l,Q x)/\l.length<=maxLen):=by
 intro fuel cs d ps h;cases fuel with
 |zero=>cases h
 |succ fuel=>
  unfold DataW.trod at h;rw[ht]at h;simp only at h;split at h<;>rename_i h1<;>try(cases h1;done)
  all_goals(try(simp at h1;done))
  ·exact⟨.sl [],⟨[],rfl,by simp,by simp⟩,rfl,.one .sl0⟩
  ·rename_i a len cap;injection h1 with h1;injection h1 with h1
   subst h1;split at h
   ·rename_i hc;simp only[Option.bind_eq_some_iff,Option.map_eq_some_iff]at h;obtain⟨elems,h2,rest,h3,h4⟩:=h;obtain⟨e1,e2⟩:=qyw h2;simp at e1;have row0:∀i,i<len->∃row v,(Q v/\v.isTup=false/\v.cells.length=z)/\RPs gid w row v.cells/\row.length=z/\∀j x,row[j]?=some x->w.cell? ((a.add (i*z)).add j)=some x:=by
     intro i hi;have hel:=e2 i i (elems[i]'(by omega)) (by simp[hi]) (List.getElem?_eq_getElem _);obtain⟨row,g1,g2⟩:=Option.bind_eq_some_iff.1 hel;obtain⟨v,q1,q2,q3⟩:=hQ fuel row _ _ g2;have hl:=hlen v q1;unfold World.cells? at g1;rw[if_pos (Nat.zero_le _),hz]at g1;obtain⟨m1,m2⟩:=qyw g1;simp at m1;refine⟨row,v,⟨q1,q2,hl⟩,q3,m1.symm,fun j x hj=>?_⟩;have hjlt:j<z:=by rw[m1];exact(List.getElem?_eq_some_iff.1 hj).1
     exact m2 j j x (by simp[hjlt]) hj
    have flat:0<len->a.spot=none/\a.block<w.heap.size:=by
     intro hp;obtain⟨row,v,_,_,hrl,hr⟩:=row0 0 hp;have h5:=hr 0 (row[0]'(by omega)) (List.getElem?_eq_getElem _);have e0:(a.add (0*z)).add 0=a:=by simp[Addr.add]
     rw[e0]at h5;obtain⟨b1,b2⟩:=qahw h5;exact⟨b2,b1⟩
    have key:∀i,i<len->∃v,(Q v/\v.isTup=false/\v.cells.length=z)/\a.spot=none/\a.block<w.heap.size/\∃f:Nat->Value,∀(j:Nat) (c:V),v.cells[j]?=some c->w.cell? ⟨a.block,a.off+(i*z+j),none⟩=some (f j)/\RP gid w (fun _=>False) (f j) c:=by
     intro i hi;obtain⟨hsp,hbl⟩:=flat (by omega);obtain⟨row,v,hv,hrp,hrl,hr⟩:=row0 i hi;refine⟨v,hv,hsp,hbl,fun j=>(row[j]?).getD Go.undef,fun j c hj=>?_⟩;have hjlt:j<z:=by rw[<-hv.2.2];exact(List.getElem?_eq_some_iff.1 hj).1
     have hrj:row[j]?=some (row[j]'(by omega)):=List.getElem?_eq_getElem _;have g:=hr j _ hrj;refine⟨?_,?_⟩
     ·simp only[hrj,Option.getD_some];rw[<-g];rw[q4w hsp,q4w rfl,Nat.add_assoc]
     ·simp only[hrj,Option.getD_some];exact hrp.2 j _ c hrj hj
    obtain⟨l,l1,l2⟩:=qs9 len key;have hF:∃f:Nat->Nat->Value,∀(i:Nat) (e:V) (j:Nat) (c:V),l[i]?=some e->e.cells[j]?=some c->w.cell? ⟨a.block,a.off+(i*z+j),none⟩=some (f i j)/\RP gid w (fun _=>False) (f i j) c:=by
     refine⟨fun i j=>(w.cell? ⟨a.block,a.off+(i*z+j),none⟩).getD Go.undef,fun i e j c hi hj=>?_⟩;obtain⟨_,_,_,f,hf⟩:=l2 i e hi;obtain⟨g1,g2⟩:=hf j c hj;refine⟨by simp only[g1,Option.getD_some],?_⟩;simp only[g1,Option.getD_some];exact g2
    obtain⟨f,hf⟩:=hF;have any:l≠[]->a.spot=none/\a.block<w.heap.size:=by
     intro hn;cases hl:l with
     |nil=>exact absurd hl hn
     |cons x xs=>
      obtain⟨_,g1,g2,_⟩:=l2 0 x (by rw[hl];rfl);exact⟨g1,g2⟩
    refine⟨.sl l,⟨l,rfl,fun x hx=>?_,?_⟩,rfl,.one ?_⟩
    ·obtain⟨i,hi⟩:=List.getElem?_of_mem hx;exact(l2 i x hi).1.1
    ·omega
    ·exact .sl a len cap z l f l1.symm (fun hn=>(any hn).1) (fun _ h=>h) (fun hn=>(any hn).2) hc.2.1 (fun i e hi=>(l2 i e hi).1.2.2) (fun i e j c hi hj=>(hf i e j c hi hj).1) (fun i e j c hi hj=>(hf i e j c hi hj).2)
   ·cases h
  ·cases h
theorem qyg {fuel:Nat}:∀(fs:List Field) (Qs:List (V->Prop)) (cs:List Value) (off:Nat) (xs:List (DataW H × List MemPlace)),
 fs.length=Qs.length->(∀(i:Nat) (f:Field) (Q:V->Prop),fs[i]?=some f->Qs[i]?=some Q->Rd enc P w gid f.type Q) ->
 (fs.foldl (fun(o:Option Nat) f=>o.bind fun o=>if f.offset=o then some (o+P.cellsOf f.type)else none) (some off)=some cs.length)->off<=cs.length ->
 (fs.mapM fun f=>DataW.trod enc P w 0 (fun _=>true) true fuel f.type ((cs.drop f.offset).take (P.cellsOf f.type)))=some xs ->
 ∃vs:List V,vs.length=Qs.length/\(∀(i:Nat) (v:V) (Q:V->Prop),vs[i]?=some v->Qs[i]?=some Q->Q v/\v.isTup=false)/\RPs gid w (cs.drop off) (vs.flatMap V.cells)
 | [],Qs,cs,off,xs,hl,_,hoff,_,_=>by
  simp at hoff hl;refine⟨[],by simp[hl],by simp,?_⟩;rw[hoff];simp;exact .nil
 |f :: fs,Qs,cs,off,xs,hl,hQ,hoff,hle,h=>by
  cases Qs with
  |nil=>simp at hl
  |cons Q Qs=>
   simp only[List.foldl_cons,Option.bind_some]at hoff;split at hoff
   ·rename_i ho;rw[List.mapM_cons]at h;simp only[Option.bind_eq_bind,Option.bind_eq_some_iff,Option.pure_def,Option.some.injEq]at h;obtain⟨x,h1,ys,h2,h3⟩:=h;have grow:∀(fs:List Field) (o n:Nat),fs.foldl (fun(o:Option Nat) f=>o.bind fun o=>if f.offset=o then some (o+P.cellsOf f.type)else none) (some o)=some n->o<=n:=by
     intro fs;induction fs with
     |nil=>intro o n h;simp at h;omega
     |cons g gs ih=>
      intro o n h;simp only[List.foldl_cons,Option.bind_some]at h;split at h
      ·have:=ih _ _ h;omega
      ·have none':∀(gs:List Field),gs.foldl (fun(o:Option Nat) f=>o.bind fun o=>if f.offset=o then some (o+P.cellsOf f.type)else none) none=none:=by
        intro gs;induction gs with
        |nil=>rfl
        |cons _ _ ih=>simpa using ih
       rw[none']at h;cases h
    have hle2:=grow fs _ _ hoff;obtain⟨v,q1,q2,q3⟩:=hQ 0 f Q rfl rfl fuel _ _ _ h1;obtain⟨vs,v1,v2,v3⟩:=qyg fs Qs cs (off+P.cellsOf f.type) ys (by simpa using hl) (fun i g R hg hR=>hQ (i+1) g R (by simpa using hg) (by simpa using hR)) hoff hle2 h2;refine⟨v :: vs,by simp[v1],fun i u R hu hR=>?_,?_⟩
    ·cases i with
     |zero=>simp at hu hR;subst hu;subst hR;exact⟨q1,q2⟩
     |succ i=>exact v2 i u R (by simpa using hu) (by simpa using hR)
    ·rw[List.flatMap_cons];have e:cs.drop off=(cs.drop f.offset).take (P.cellsOf f.type)++cs.drop (off+P.cellsOf f.type):=by
      rw[ho,<-List.drop_drop];exact(List.take_append_drop _ _).symm
     rw[e];exact q3.append v3
   ·have none':∀(gs:List Field),gs.foldl (fun(o:Option Nat) f=>o.bind fun o=>if f.offset=o then some (o+P.cellsOf f.type)else none) none=none:=by
     intro gs;induction gs with
     |nil=>rfl
     |cons _ _ ih=>simpa using ih
    rw[none']at hoff;cases hoff
theorem qyf {t:TypeId}{fs:Array Field}{z:Nat}(Qs:List (V->Prop))(ht:P.underlying t=some (.struct fs))(hz:P.cellsOf t=z)(hl:fs.toList.length=Qs.length)
 (hQ:∀(i:Nat) (f:Field) (Q:V->Prop),fs.toList[i]?=some f->Qs[i]?=some Q->Rd enc P w gid f.type Q)
 (hoff:fs.toList.foldl (fun(o:Option Nat) f=>o.bind fun o=>if f.offset=o then some (o+P.cellsOf f.type)else none) (some 0)=some z) :
 Rd enc P w gid t (fun v=>∃vs:List V,v=.agg (vs.flatMap V.cells)/\vs.length=Qs.length/\∀(i:Nat) (v:V) (Q:V->Prop),vs[i]?=some v->Qs[i]?=some Q->Q v):=by
 intro fuel cs d ps h;cases fuel with
 |zero=>cases h
 |succ fuel=>
  unfold DataW.trod at h;rw[ht]at h;simp only at h;split at h
  ·rename_i hcs;rw[hz]at hcs;obtain⟨xs,h2,h3⟩:=Option.map_eq_some_iff.1 h;obtain⟨vs,v1,v2,v3⟩:=qyg fs.toList Qs cs 0 xs hl hQ (by rw[hcs];exact hoff) (Nat.zero_le _) h2;exact⟨.agg (vs.flatMap V.cells),⟨vs,rfl,v1,fun i v Q hv hq=>(v2 i v Q hv hq).1⟩,rfl,by simp only[List.drop_zero]at v3;exact v3⟩
  ·cases h
theorem RPs.get {μ:Inj}{cs:List Value}{vs:List V}(h:RPs gid w cs vs):∀(i:Nat) (x:Value) (c:V),cs[i]?=some x->vs[i]?=some c->RC gid w (fun _=>False) μ x c:=fun i x c hx hc=>.p (h.2 i x c hx hc)
theorem Rd.struct {μ:Inj}{t:TypeId}{Q:V->Prop}{fs:Array Field}{r:Reach}{base:Nat}(hQ:Rd enc P w gid t Q)(ht:P.underlying t=some (.struct fs))(hagg:∀a,Q a->∃cs,a=.agg cs){v:Value}{d:DataW H}{ps:List MemPlace}
 (h:DataW.Trod enc P w 0 (fun _=>true) true t v d ps) (hok:Value.okWide P w r base t v):∃a,Q a/\R gid w (fun _=>False) μ v a:=by
 obtain⟨fuel,h⟩:=h;unfold Value.okWide at hok;rw[ht]at hok;obtain⟨cs,rfl,_⟩:=hok;obtain⟨a,q1,_,q3⟩:=hQ fuel _ d ps h;obtain⟨as',rfl⟩:=hagg a q1;exact⟨_,q1,.agg cs as' (by have:=q3.1;simp only[Value.cells,Array.length_toList]at this;exact this) fun i x c hx hc=>.p (q3.2 i x c (by simpa[Value.cells]using hx) hc)⟩
theorem Rd.cell {μ:Inj}{t:TypeId}{Q:V->Prop}(hQ:Rd enc P w gid t Q)(hcell:∀a,Q a->a.isCell=true){v:Value}{d:DataW H}{ps:List MemPlace}
 (h:DataW.Trod enc P w 0 (fun _=>true) true t v d ps) (hv:v.cells=#[v]):∃a,Q a/\R gid w (fun _=>False) μ v a:=by
 obtain⟨fuel,h⟩:=h;obtain⟨a,q1,_,q3⟩:=hQ fuel _ d ps h;rw[hv,V.cells_cell (hcell a q1)]at q3;exact⟨a,q1,.c (.p (q3.2 0 v a rfl rfl))⟩
theorem q8p {t:TypeId}{k:IntKind}{r:Reach}{base:Nat}(ht:P.underlying t=some (.int k)){v:Value}(h:Value.okWide P w r base t v):v.cells=#[v]:=by
 unfold Value.okWide at h;rw[ht]at h;simp only[Cell.okWide,ht,Cell.ok]at h;cases v<;>first|rfl|exact h.elim
theorem qn4 (hl:laidOutB P=true){W W':World}{sp:Nat->Bool}:∀{ts:List TypeId} {vs:List Value} {ds:List (DataW H)} {ps:List MemPlace},(∀t ∈ ts,P.readableRec t=true/\t<P.types.size) ->
 DataW.TrodAll enc P W 0 (fun _=>true) true ts vs ds ps->(∀p ∈ ps,W.sameAt W' p)->(∀p ∈ ps,sp p.block=true)->DataW.TrodAll enc P W' 0 sp true ts vs ds ps
 | [],vs,ds,ps,_,h,_,_=>by
  obtain⟨rfl,rfl,rfl⟩:=trodAll_nil h;exact h
 |t :: ts,vs,ds,ps,hr,h,hs,hsp=>by
  obtain⟨v,vs',d,ds',p,q,rfl,rfl,rfl,h1,h2⟩:=trodAll_cons h;exact⟨p,q,WideElems.Trod_stays hl (hr t (by simp)).1 (hr t (by simp)).2 h1 (fun x hx=>hs x (List.mem_append_left _ hx)) (fun x hx=>hsp x (List.mem_append_left _ hx)),
   qn4 hl (fun u hu=>hr u (by simp[hu])) h2 (fun x hx=>hs x (List.mem_append_right _ hx)) (fun x hx=>hsp x (List.mem_append_right _ hx)),rfl⟩
theorem q8j {f:Func}{s:ChangeSpec}{apart fresh handsOn again:Bool}{W W':World}{args:Array Value}{ds gs:List (DataW H)}{before:List MemPlace}{tb:TypeId}
 (hl:laidOutB P=true) (hvars:s.vars=[]) (hr:∀t ∈ f.params.toList,P.readableRec t=true/\t<P.types.size) (hres:f.resultTypes=#[tb]) (htb:P.underlying tb=some .bool)
 (hfn:(s.fn H (ds++gs)).results=[.lit (.bool true)]/\(s.fn H (ds++gs)).args=ds/\(s.fn H (ds++gs)).vars=[])
 (hW:DataW.Whole enc P f.params.toList s.vars apart W args.toList ds gs before) (hb:Below W.heap.size W W') :
 s.post enc P f apart fresh handsOn again W args (.bool true) W':=by
 have hlt:=hW.lt;have hW0:=hW;obtain⟨p,q,hA,hV,rfl,hz,hn⟩:=hW;rw[hvars]at hV;have⟨hq,hg⟩:q=[]/\gs=[]:=by
  cases gs with
  |nil=>exact⟨hV,rfl⟩
  |cons _ _=>exact hV.elim
 subst hq;subst hg;simp only[List.append_nil]at hW0 hz hn hlt;have hA':∀sp:Nat->Bool,(∀x ∈ p,sp x.block=true)->DataW.TrodAll enc P W' 0 sp true f.params.toList args.toList ds p:=fun sp hsp=>
  qn4 hl hr hA (fun x hx=>hb.same (hlt x hx)) hsp
 have hrv:(Value.bool true).resultList f.resultTypes.size=[.bool true]:=by rw[hres];rfl
 have hR:∀(b:Nat) (sp:Nat->Bool) (hd:Bool),DataW.TrodAll enc P W' b sp hd f.resultTypes.toList ((Value.bool true).resultList f.resultTypes.size) (s.fn H (ds++[])).results []:=by
  intro b sp hd;rw[hfn.1,hrv,hres];exact trodAll_mk1 (shut_bool htb true)
 have hVs:∀(sp:Nat->Bool),DataW.TrodVars enc P W' sp s.vars (s.fn H (ds++[])).vars []:=by
  intro sp;rw[hfn.2.2,hvars];rfl
 refine⟨ds,[],p,[],p,[],hW0,hR _ _ _,by rw[hfn.2.1];exact hA' _ (fun x hx=>by simpa using hlt x hx),hVs _,hb.frame _,fun _=>⟨?_,?_⟩⟩
 ·exact ok_one hres rfl (okWide_bool_mk htb true)
 ·refine⟨_,_,([]++p)++[],⟨[]++p,[],trodAll_append (hA' _ (fun _ _=>rfl)) (hR _ _ _),hVs _,rfl,?_,?_⟩,?_⟩
  ·intro b off hp;rw[hb.frozen (p:=⟨b,off,none⟩) (hlt (.cell b off) (by simpa using hp))];exact hz b off (by simpa using hp)
  ·intro ha;simpa using hn ha
  ·intro x hx _;simpa using hx
theorem q84 {T:Tab}{S:AProg}(seat:Seat T S){g fid:Nat}(hg:T.gid fid=some g){args:List V}(hc:Ev S (.call g args []) (.ret (.bool true) [])){W:World}{vs:List Value}
 (hr:Rs T.gid W (fun _=>False) (fun _=>none) vs args) (tb:Tabs T.gid W fun _=>False):Calls T.P fid vs.toArray W fun e W'=>e=.returned (.bool true)/\Below W.heap.size W W':=by
 have hs:Sim T.gid W (fun _=>False) (fun _=>none) []:=⟨(by intro b x h;cases h),(by intro b b' c base z base' z' h;cases h),(by intro b c base z k h;cases h),tb⟩
 obtain⟨_,h⟩:=sound seat hc;obtain⟨fn,_,_,_,h⟩:=h fid hg;refine(h W _ _ vs hs hr).mono fun e W' he=>?_
 obtain⟨v',M',μ',rfl,st,hv⟩:=he;refine⟨by rw[hv.inv_bool],st.os,st.tape,st.output,st.size,fun k hk=>st.frame k hk ?_⟩;intro b base z h;cases h
end
end Go.Abs
