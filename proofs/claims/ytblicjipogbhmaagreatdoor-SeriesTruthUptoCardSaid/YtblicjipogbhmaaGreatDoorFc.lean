import Derived.Laws.World
import Derived.Laws.Rows
import Derived.Below
import GoSem.Op.Equal
import GoSem.Core.Region
import Derived.Deep.AppendSrc
import Derived.Laws.CopyRow
import Derived.Laws.Slices
import Derived.Laws.MakeOwn
import Derived.Laws.StructEq
import Derived.Orders
import Derived.Test.YtblicjipogbhmaaGreatDoorF0
namespace Go.Abs
abbrev bp :=Nat->Option (Nat × Nat × Nat)
variable (gid : Gid)
inductive RP (gid:Gid)(w:World)(M:Nat->Prop):Value->V->Prop
 |bool (b:Bool):RP gid w M (.bool b) (.bool b)
 |int (k:IntKind) (n:Int):RP gid w M (.int k n) (.int k n)
 |str (s:ByteArray):RP gid w M (.string s) (.str s)
 |nil:RP gid w M (.slice none 0 0) .nil
 |sl0:RP gid w M (.slice none 0 0) (.sl [])
 |emp (a:Addr) (cap:Nat):RP gid w M (.slice (some a) 0 cap) .emp
 |sl (a:Addr) (len cap s:Nat) (l:List V) (f:Nat->Nat->Value) (hlen:len=l.length) (ha:l≠[]->a.spot=none) (hM:l≠[]->¬M a.block) (hb:l≠[]->a.block<w.heap.size)
  (hcap:len<=cap) (hs:∀(i:Nat) (e:V),l[i]?=some e->e.cells.length=s)
  (hc:∀(i:Nat) (e:V) (j:Nat) (c:V),l[i]?=some e->e.cells[j]?=some c->w.cell? ⟨a.block,a.off+(i*s+j),none⟩=some (f i j))
  (hr:∀(i:Nat) (e:V) (j:Nat) (c:V),l[i]?=some e->e.cells[j]?=some c->RP gid w M (f i j) c):RP gid w M (.slice (some a) len cap) (.sl l)
 |eptr (a:Addr) (cs:List V) (f:Nat->Value) (ha:a.spot=none) (hM:¬M a.block) (hb:a.block<w.heap.size)
  (hc:∀(j:Nat) (c:V),cs[j]?=some c->w.cell? ⟨a.block,a.off+j,none⟩=some (f j))
  (hr:∀(j:Nat) (c:V),cs[j]?=some c->RP gid w M (f j) c):RP gid w M (.pointer (some a)) (.eptr cs)
 |fn (f g:Nat) (hg:gid f=some g):RP gid w M (.func (.func f) #[] #[]) (.fn g [])
 |nilfn:RP gid w M .nilFunc .nilfn
inductive RC (gid:Gid)(w:World)(M:Nat->Prop)(μ:bp):Value->V->Prop
 |p {v:Value} {a:V} (h:RP gid w M v a):RC gid w M μ v a
 |ref (b z off len c base cap:Nat) (a:Addr) (arr:Array Value) (e:TypeId) (fr:Nat × Nat) (hμ:μ b=some (c,base,z)) (hc:a.block=c) (ha:a.spot=none) (hcap:len<=cap)
  (hoff:cap=0\/a.off=base+off*z) (hw:w.heap[c]?=some (.cells arr e fr)) (hsz:a.off+cap*z<=arr.size):RC gid w M μ (.slice (some a) len cap) (.ref b z off len)
 |ptr (b i off c base z n:Nat) (hμ:μ b=some (c,base,z)) (hn:n=base+(i*z+off)):RC gid w M μ (.pointer (some ⟨c,n,none⟩)) (.ptr b i off)
 |fn (f g:Nat) (caps:Array Value) (cs:List V) (hg:gid f=some g) (hsz:caps.size=cs.length)
  (hr:∀(i:Nat) (v:Value) (c:V),caps[i]?=some v->cs[i]?=some c->RC gid w M μ v c):RC gid w M μ (.func (.func f) #[] caps) (.fn g cs)
inductive R (gid:Gid)(w:World)(M:Nat->Prop)(μ:bp):Value->V->Prop
 |c {v:Value} {a:V} (h:RC gid w M μ v a):R gid w M μ v a
 |agg (arr:Array Value) (cs:List V) (hsz:arr.size=cs.length) (hr:∀(i:Nat) (v:Value) (c:V),arr[i]?=some v->cs[i]?=some c->RC gid w M μ v c):R gid w M μ (.agg arr) (.agg cs)
 |tup (arr:Array Value) (vs:List V) (hsz:arr.size=vs.length) (hr:∀(i:Nat) (v:Value) (c:V),arr[i]?=some v->vs[i]?=some c->R gid w M μ v c):R gid w M μ (.tuple arr) (.tup vs)
variable {gid} {w w' : World} {M M' : Nat → Prop} {μ μ' : bp}
theorem R.undef : R gid w M μ undef .undef:=.tup #[] [] rfl (by simp)
theorem RP.isCell {v:Value}{a:V}(h:RP gid w M v a):a.isCell=true:=by cases h<;>rfl
theorem RC.isCell {v:Value}{a:V}(h:RC gid w M μ v a):a.isCell=true:=by
 cases h with
 |p h=>exact h.isCell
 |_=>rfl
theorem RP.oneCell {v:Value}{a:V}(h:RP gid w M v a):v.oneCell'=true:=by cases h<;>rfl
theorem RC.oneCell {v:Value}{a:V}(h:RC gid w M μ v a):v.oneCell'=true:=by
 cases h with
 |p h=>exact h.oneCell
 |_=>rfl
theorem V.cells_cell {a:V}(h:a.isCell=true):a.cells=[a]:=by cases a<;>first|rfl|cases h
theorem Value.cells_cell {v:Value}(h:v.oneCell'=true):v.cells=#[v]:=by cases v<;>first|rfl|cases h
theorem RP.emp_sl {v:Value}(h:RP gid w M v .emp):RP gid w M v (.sl []):=by
 cases h with
 |emp a cap=>exact .sl a 0 cap 0 [] (fun _ _=>.nilFunc) rfl (by simp) (by simp) (by simp) (Xa _) (by simp) (by simp) (by simp)
theorem RP.sl_emp {v:Value}(h:RP gid w M v (.sl [])):RP gid w M v .nil\/RP gid w M v .emp:=by
 cases h with
 |sl0=>exact .inl .nil
 |sl a len cap s l f b d hM e c=>
  simp at b;subst b;exact .inr (.emp a cap)
theorem R.inv_emp {v:Value}(h:R gid w M μ v .emp):∃a cap,v=.slice (some a) 0 cap:=by
 cases h with
 |c h=>cases h with
  |p h=>cases h with
   |emp a cap=>exact⟨a,cap,rfl⟩
structure Keep (w:World)(M:Nat->Prop)(w':World)(M':Nat->Prop):Prop where
 size:w.heap.size<=w'.heap.size
 same:∀c,c<w.heap.size->¬M c->w'.heap[c]?=w.heap[c]?
 sub:∀c,c<w.heap.size->M' c->M c
theorem Keep.cell (h:Keep w M w' M'){a:Addr}{v:Value}(b:a.block<w.heap.size)(hM:¬M a.block)(c:w.cell? a=some v):w'.cell? a=some v:=by
 rw[World.cell?_of_block (w:=w) (h.same a.block b hM)];exact c
theorem RP.keep (h:Keep w M w' M'){v:Value}{a:V}(C:RP gid w M v a):RP gid w' M' v a:=by
 induction C with
 |bool b=>exact .bool b
 |int k n=>exact .int k n
 |str s=>exact .str s
 |nil=>exact .nil
 |sl0=>exact .sl0
 |emp a cap=>exact .emp a cap
 |sl a len cap s l f p r hM d o D t _ x=>
  have y:∀{i:Nat} {e:V},l[i]?=some e->l≠[]:=fun hi z=>by subst z;simp at hi
  exact .sl a len cap s l f p r (fun q u=>hM q (h.sub _ (d q) u)) (fun q=>Vx (d q) h.size) o D (fun i e j c m A=>h.cell (a:=⟨a.block,_,none⟩) (d (y m)) (hM (y m)) (t i e j c m A)) x
 |eptr a cs f r hM d t _ x=>
  exact .eptr a cs f r (fun u=>hM (h.sub _ d u)) (Vx d h.size) (fun j c m=>h.cell (a:=⟨a.block,_,none⟩) d hM (t j c m)) x
 |fn f g B=>exact .fn f g B
 |nilfn=>exact .nilfn
def Shape (w w':World):Prop:=∀(c:Nat) (arr:Array Value) (e:TypeId) (fr:Nat × Nat),w.heap[c]?=some (.cells arr e fr)->∃arr',w'.heap[c]?=some (.cells arr' e fr)/\arr'.size=arr.size
theorem Shape.refl (w:World):Shape w w:=fun _ arr _ _ h=>⟨arr,h,rfl⟩
theorem Shape.trans {a b c:World}(h:Shape a b)(k:Shape b c):Shape a c:=fun i arr e fr hi=>by
 obtain⟨d,g,l⟩:=h i arr e fr hi;obtain⟨f,j,m⟩:=k i d e fr g;exact⟨f,j,m.trans l⟩
inductive Low (n:Nat):V->Prop
 |cell {a:V} (h:a.cellPure=true):Low n a
 |ref (b z off len:Nat) (h:b<n):Low n (.ref b z off len)
 |ptr (b i off:Nat) (h:b<n):Low n (.ptr b i off)
 |fn (g:Nat) (cs:List V) (h:∀c ∈ cs,Low n c):Low n (.fn g cs)
theorem RC.mono (h:Keep w M w' M')(C:Shape w w')(r:∀b x,μ b=some x->μ' b=some x){v:Value}{a:V}(B:RC gid w M μ v a):RC gid w' M' μ' v a:=by
 induction B with
 |p l=>exact .p (l.keep h)
 |ref b z off len c d cap a arr e fr l u t m o D q=>
  obtain⟨j,s,F⟩:=C c arr e fr D;exact .ref b z off len c d cap a j e fr (r _ _ l) u t m o s (by omega)
 |ptr b i off c d z n l A=>exact .ptr b i off c d z n (r _ _ l) A
 |fn f g k cs y q _ E=>exact .fn f g k cs y q E
theorem RC.low (h:Keep w M w' M')(F:Shape w w'){n:Nat}(t:∀b x,b<n->μ b=some x->μ' b=some x){v:Value}{a:V}(E:RC gid w M μ v a)(y:Low n a):RC gid w' M' μ' v a:=by
 induction E with
 |p j=>exact .p (j.keep h)
 |ref b z off len c d cap a arr e fr j B A q r G s=>
  obtain⟨k,o,I⟩:=F c arr e fr G;have u:b<n:=by cases y with|cell h=>cases h|ref _ _ _ _ h=>exact h
  exact .ref b z off len c d cap a k e fr (t _ _ u j) B A q r o (by omega)
 |ptr b i off c d z m j D=>
  have u:b<n:=by cases y with|cell h=>cases h|ptr _ _ _ h=>exact h
  exact .ptr b i off c d z m (t _ _ u j) D
 |fn f g l cs C s _ H=>
  refine .fn f g l cs C s fun i v c j o=>H i v c j o ?_
  cases y with
  |cell h=>
   cases cs with
   |nil=>simp at o
   |cons _ _=>simp[V.cellPure]at h
  |fn _ _ h=>exact h c (VX o)
theorem RC.toLow {v:Value}{a:V}(r:RC gid w M μ v a){n:Nat}(k:∀b x,μ b=some x->b<n):Low n a:=by
 induction r with
 |p j=>cases j<;>exact .cell rfl
 |ref b z off len c h cap a arr e fr j=>exact .ref _ _ _ _ (k _ _ j)
 |ptr b i off c h z m j u=>exact .ptr _ _ _ (k _ _ j)
 |fn f g d cs t o _ s=>
  refine .fn _ _ fun c q=>?_
  obtain⟨i,hi⟩:=Wa q;have l:i<d.size:=by rw[o];exact(Vi.1 hi).1
  exact s i d[i] c (by simp[l]) hi
theorem RC.pure {v:Value}{a:V}(i:RC gid w M μ v a)(d:a.cellPure=true):RP gid w M v a:=by
 cases i with
 |p h=>exact h
 |ref=>cases d
 |ptr=>cases d
 |fn f g b cs e c _=>
  cases cs with
  |cons _ _=>cases d
  |nil=>
   have:b=#[]:=by cases b;simp at c;simp[c]
   subst this;exact .fn f g e
theorem R.mono (h:Keep w M w' M')(g:Shape w w')(e:∀b x,μ b=some x->μ' b=some x){v:Value}{a:V}(k:R gid w M μ v a):R gid w' M' μ' v a:=by
 induction k with
 |c f=>exact .c (f.mono h g e)
 |agg arr cs d f=>exact .agg arr cs d fun i v c hv j=>(f i v c hv j).mono h g e
 |tup arr m d _ l=>exact .tup arr m d l
theorem R.cells {v:Value}{a:V}(g:R gid w M μ v a)(j:a.isTup=false):v.cells.size=a.cells.length/\∀(i:Nat) (x:Value) (c:V),v.cells[i]?=some x->a.cells[i]?=some c->RC gid w M μ x c:=by
 cases g with
 |c h=>
  rw[Value.cells_cell h.oneCell,V.cells_cell h.isCell];refine⟨rfl,fun i x c e b=>?_⟩;cases i with
  |zero=>simp at e b;subst e;subst b;exact h
  |succ i=>simp at b
 |agg arr cs d f=>exact⟨d,f⟩
 |tup=>cases j
def dJ (H:ab)(b:Nat):Prop:=∃k,H[b]?=some (some k)
def fR (H:ab)(b:Nat):Prop:=∃k,H[b]?=some (some k)/\k.wr=true
structure BlkOk (gid:Gid)(w:World)(M:Nat->Prop)(μ:bp)(c base z:Nat)(k:Blk):Prop where
 hz:k.z=z
 hM:k.wr=true->M c
 hF:k.wr=false->¬M c
 lay:∃(arr:Array Value) (e:TypeId),w.heap[c]?=some (.cells arr e (0,0))/\base+k.el.length*z<=arr.size /\
  ∀(i:Nat) (el:V),k.el[i]?=some el->el.isTup=false/\el.cells.length=z/\∀(j:Nat) (cv:V),el.cells[j]?=some cv->∃v,arr[base+(i*z+j)]?=some v/\RC gid w M μ v cv
 pur:k.arr=true->∀el ∈ k.el,el.pure=true
def Tabs (gid:Gid)(w:World)(M:Nat->Prop):Prop:=∀g cs,gid.tabs g=some cs->RP gid w M (.pointer (some ⟨g,0,none⟩)) (.eptr cs)
theorem Tabs.keep (h:Keep w M w' M')(t:Tabs gid w M):Tabs gid w' M':=fun g cs a=>(t g cs a).keep h
structure Sim (gid:Gid)(w:World)(M:Nat->Prop)(μ:bp)(H:ab):Prop where
 dom:∀b x,μ b=some x->b<H.length
 inj:∀b b' c base z base' z',μ b=some (c,base,z)->μ b'=some (c,base',z')->dJ H b->dJ H b'->b=b'
 blk:∀b c base z k,μ b=some (c,base,z)->H[b]?=some (some k)->BlkOk gid w M μ c base z k
 tab:Tabs gid w M
def jg (n:Nat)(μ:bp)(H:ab):Prop:=∀b k,b<n->μ b≠none->H[b]?=some (some k)->∀el ∈ k.el,∀c ∈ el.cells,Low n c
structure Step (gid:Gid)(n0:Nat)(w:World)(M:Nat->Prop)(μ:bp)(H:ab)(w':World)(M':Nat->Prop)(μ':bp)(H':ab):Prop where
 sim:Sim gid w' M' μ' H'
 ext:∀b,b<H.length->μ' b=μ b
 len:H.length<=H'.length
 size:w.heap.size<=w'.heap.size
 frame:∀c,c<w.heap.size->(∀b base z,μ b=some (c,base,z)->¬fR H b)->w'.heap[c]?=w.heap[c]?
 shape:Shape w w'
 sub:∀c,M' c->M c\/w.heap.size<=c
 keepM:∀c,c<w.heap.size->M c->(∀b base z,μ b=some (c,base,z)->¬fR H b)->M' c
 fresh:∀b c base z,H.length<=b->μ' b=some (c,base,z)->w.heap.size<=c\/∃b0 base0 z0,μ b0=some (c,base0,z0)/\fR H b0
 wrmono:∀b,b<H.length->fR H' b->fR H b
 alv:∀b,b<H.length->dJ H' b->dJ H b
 low:∀n,n<=n0->jg n μ H->jg n μ' H'
 os:w'.os=w.os
 tape:w'.tape=w.tape
 output:w'.output=w.output
theorem Sim.wrM {H:ab}(f:Sim gid w M μ H){b c a z:Nat}(h:μ b=some (c,a,z))(d:fR H b):M c:=by
 obtain⟨k,e,d⟩:=d;exact(f.blk b c a z k h e).hM d
theorem Step.keep {n0:Nat}{H b:ab}(h:Step gid n0 w M μ H w' M' μ' b)(f:Sim gid w M μ H):Keep w M w' M':=
 ⟨h.size,fun c a hM=>h.frame c a fun _ _ _ d g=>hM (f.wrM d g),fun c a e=>(h.sub c e).resolve_right (by omega)⟩
theorem Step.refl {n0:Nat}{H:ab}(d:Sim gid w M μ H):Step gid n0 w M μ H w M μ H:=
 ⟨d,fun _ _=>rfl,Vo _,Vo _,fun _ _ _=>rfl,Shape.refl w,fun _ h=>.inl h,fun _ _ h _=>h,
  fun b c a z e h=>absurd (d.dom b _ h) (by omega),fun _ _ h=>h,fun _ _ h=>h,fun _ _ h=>h,rfl,rfl,rfl⟩
theorem Step.mono_map {n0:Nat}{H c:ab}(h:Step gid n0 w M μ H w' M' μ' c)(d:Sim gid w M μ H):∀b x,μ b=some x->μ' b=some x:=
 fun b x a=>by rw[h.ext b (d.dom b x a)];exact a
theorem Step.r {n0:Nat}{H c:ab}(h:Step gid n0 w M μ H w' M' μ' c)(b:Sim gid w M μ H){v:Value}{a:V}(d:R gid w M μ v a):R gid w' M' μ' v a:=
 d.mono (h.keep b) h.shape (h.mono_map b)
theorem Step.rc {n0:Nat}{H c:ab}(h:Step gid n0 w M μ H w' M' μ' c)(b:Sim gid w M μ H){v:Value}{a:V}(d:RC gid w M μ v a):RC gid w' M' μ' v a:=
 d.mono (h.keep b) h.shape (h.mono_map b)
theorem Step.trans {n0:Nat}{v:World}{t:Nat->Prop}{l:bp}{H H1 s:ab}(h:Step gid n0 w M μ H v t l H1)(k:Step gid n0 v t l H1 w' M' μ' s):Step gid n0 w M μ H w' M' μ' s:=by
 have quiet:∀c,c<w.heap.size->(∀b a z,μ b=some (c,a,z)->¬fR H b)->∀b a z,l b=some (c,a,z)->¬fR H1 b:=by
  intro c g j b a z e p;by_cases i:b<H.length
  ·exact j b a z (by rw[<-h.ext b i];exact e) (h.wrmono b i p)
  ·rcases h.fresh b c a z (by omega) e with f|⟨b0,d,q,f,r⟩
   ·omega
   ·exact j b0 d q f r
 refine⟨k.sim,fun b e=>(k.ext b (Vx e h.len)).trans (h.ext b e),Vp h.len k.len,Vp h.size k.size,?_,h.shape.trans k.shape,?_,?_,?_,?_,?_,
  fun n u x=>k.low n u (h.low n u x),k.os.trans h.os,k.tape.trans h.tape,k.output.trans h.output⟩
 ·intro c g j;rw[k.frame c (Vx g h.size) (quiet c g j),h.frame c g j]
 ·intro c g;rcases k.sub c g with f|f
  ·exact h.sub c f
  ·exact .inr (Vp h.size f)
 ·intro c g o j;exact k.keepM c (Vx g h.size) (h.keepM c g o j) (quiet c g j)
 ·intro b c a z e o;by_cases i:b<H1.length
  ·rw[k.ext b i]at o;exact h.fresh b c a z e o
  ·rcases k.fresh b c a z (by omega) o with f|⟨b0,d,q,f,r⟩
   ·exact .inl (Vp h.size f)
   ·by_cases m:b0<H.length
    ·exact .inr ⟨b0,d,q,by rw[<-h.ext b0 m];exact f,h.wrmono b0 m r⟩
    ·exact h.fresh b0 c d q (by omega) f
 ·exact fun b e p=>h.wrmono b e (k.wrmono b (Vx e h.len) p)
 ·exact fun b e p=>h.alv b e (k.alv b (Vx e h.len) p)
end Go.Abs
namespace Go.Abs
variable {gid : Gid} {w w' : World} {M M' : Nat → Prop} {μ μ' : bp} {H : ab}
theorem Keep.refl (w:World)(M:Nat->Prop):Keep w M w M:=⟨Vo _,fun _ _ _=>rfl,fun _ _ h=>h⟩
theorem BlkOk.mono {c a z:Nat}{k:Blk}(h:BlkOk gid w M μ c a z k)(l:Keep w M w' M')(s:Shape w w')(f:∀b x,μ b=some x->μ' b=some x)
 (d:w'.heap[c]?=w.heap[c]?) (hM:k.wr=true->M' c):BlkOk gid w' M' μ' c a z k:=by
 obtain⟨arr,e,g,m,n⟩:=h.lay;refine⟨h.hz,hM,fun u q=>h.hF u (l.sub c (Array.getElem?_eq_some_iff.1 g).1 q),⟨arr,e,by rw[d];exact g,m,fun i el hi=>?_⟩,h.pur⟩;obtain⟨t,hz,o⟩:=n i el hi;refine⟨t,hz,fun j cv p=>?_⟩;obtain⟨v,hv,r⟩:=o j cv p;exact⟨v,hv,r.mono l s f⟩
theorem BlkOk.lt {c a z:Nat}{k:Blk}(h:BlkOk gid w M μ c a z k):c<w.heap.size:=by
 obtain⟨arr,e,b,_⟩:=h.lay;exact(Array.getElem?_eq_some_iff.1 b).1
structure Same (w w':World):Prop where
 heap:w'.heap=w.heap
 os:w'.os=w.os
 tape:w'.tape=w.tape
 output:w'.output=w.output
theorem Same.refl (w:World):Same w w:=⟨rfl,rfl,rfl,rfl⟩
theorem Same.drew (w:World):Same w w.drew:=⟨rfl,rfl,rfl,rfl⟩
theorem Same.keep (h:Same w w')(M:Nat->Prop):Keep w M w' M:=⟨by rw[h.heap];exact Vo _,fun c _ _=>by rw[h.heap],fun _ _ h=>h⟩
theorem Same.shape (h:Same w w'):Shape w w':=fun c arr e fr a=>⟨arr,by rw[h.heap];exact a,rfl⟩
theorem Sim.same (d:Sim gid w M μ H)(h:Same w w'):Sim gid w' M μ H:=
 ⟨d.dom,d.inj,fun b c a z k e f=>(d.blk b c a z k e f).mono (h.keep M) h.shape (fun _ _ h=>h) (by rw[h.heap]) (d.blk b c a z k e f).hM,d.tab.keep (h.keep M)⟩
theorem Step.same {n0:Nat}(d:Sim gid w M μ H)(h:Same w w'):Step gid n0 w M μ H w' M μ H:=
 ⟨d.same h,fun _ _=>rfl,Vo _,by rw[h.heap];exact Vo _,fun c _ _=>by rw[h.heap],h.shape,fun _ h=>.inl h,fun _ _ h _=>h,
  fun b c a z e h=>absurd (d.dom b _ h) (by omega),fun _ _ h=>h,fun _ _ h=>h,fun _ _ h=>h,h.os,h.tape,h.output⟩
theorem np {b d:Nat}{x:Option Blk}(c:x=none\/dJ H b)(h:dJ (H.set b x) d):dJ H d:=by
 obtain⟨k,a⟩:=h;by_cases e:b=d
 ·subst e;by_cases f:b<H.length
  ·rw[Wk f]at a;injection a with a
   subst a;rcases c with c|c
   ·cases c
   ·exact c
  ·rw[Yh (by omega)]at a;exact⟨k,a⟩
 ·rw[Wc e]at a;exact⟨k,a⟩
theorem Step.kill {n0 b:Nat}(l:Sim gid w M μ H):Step gid n0 w M μ H w M μ (H.set b none):=by
 have get:∀(a:Nat) (k:Blk),(H.set b none)[a]?=some (some k)->H[a]?=some (some k):=by
  intro a k g;by_cases e:b=a
  ·subst e;by_cases m:b<H.length
   ·rw[Wk m]at g;cases g
   ·rwa[Yh (by omega)]at g
  ·rwa[Wc e]at g
 refine⟨⟨fun a x h=>by simpa using l.dom a x h,fun q r c d z f v i j o p=>l.inj q r c d z f v i j (np (.inl rfl) o) (np (.inl rfl) p),
  fun a c d z k i j=>l.blk a c d z k i (get a k j),l.tab⟩,fun _ _=>rfl,by simp,Vo _,fun _ _ _=>rfl,Shape.refl w,fun _ h=>.inl h,fun _ _ h _=>h,
  fun a c d z y h=>absurd (l.dom a _ h) (by omega),fun a _ h=>?_,fun a _ h=>np (.inl rfl) h,fun n _ t a k i j s=>t a k i j (get a k s),rfl,rfl,rfl⟩
 obtain⟨k,g,u⟩:=h;exact⟨k,get a k g,u⟩
theorem Step.freeze {n0 b c f z:Nat}{k:Blk}(p:Sim gid w M μ H)(s:μ b=some (c,f,z))(q:H[b]?=some (some k))(U:k.wr=true) :
 Step gid n0 w M μ H w (fun x=>M x/\x≠c) μ (H.set b (some { k with wr:=false })):=by
 have A:b<H.length:=p.dom b _ s;have get:∀(d:Nat) (l:Blk),(H.set b (some { k with wr:=false }))[d]?=some (some l)->(d≠b/\H[d]?=some (some l))\/(d=b/\l={ k with wr:=false }):=by
  intro d l h;by_cases e:b=d
  ·subst e;rw[Wk A]at h;injection h with h;injection h with h;exact .inr ⟨rfl,h.symm⟩
  ·rw[Wc e]at h;exact .inl ⟨fun K=>e K.symm,h⟩
 have y:Keep w M w (fun x=>M x/\x≠c):=⟨Vo _,fun _ _ _=>rfl,fun _ _ h=>h.1⟩
 refine⟨⟨fun d x h=>by simpa using p.dom d x h,fun I J c f z a t g m F G=>p.inj I J c f z a t g m (np (.inr ⟨k,q⟩) F) (np (.inr ⟨k,q⟩) G),?_,p.tab.keep y⟩,
  fun _ _=>rfl,by simp,Vo _,fun _ _ _=>rfl,Shape.refl w,fun _ h=>.inl h.1,?_,fun d c f z s h=>absurd (p.dom d _ h) (by omega),?_,fun d _ h=>np (.inr ⟨k,q⟩) h,?_,rfl,rfl,rfl⟩
 ·intro d u a t l g m;rcases get d l m with ⟨C,r⟩|⟨rfl,rfl⟩
  ·have o:=p.blk d u a t l g r;refine o.mono y (Shape.refl w) (fun _ _ h=>h) rfl fun D=>⟨o.hM D,?_⟩
   intro e;subst e;exact C (p.inj d b u a t f z g s ⟨l,r⟩ ⟨k,q⟩)
  ·have o:=p.blk d u a t k g q;have h5:=o.mono (M':=fun x=>M x/\x≠c) (μ':=μ) y (Shape.refl w) (fun _ _ h=>h) rfl;obtain⟨arr,e,W,Y,Z⟩:=o.lay;refine⟨o.hz,fun h=>by simp at h,fun _ B=>B.2 (by rw[s]at g;injection g with g;injection g with g _;exact g.symm),⟨arr,e,W,Y,fun i el hi=>?_⟩,o.pur⟩;obtain⟨T,hz,N⟩:=Z i el hi;refine⟨T,hz,fun j cv P=>?_⟩;obtain⟨v,hv,S⟩:=N j cv P;exact⟨v,hv,S.mono y (Shape.refl w) (fun _ _ h=>h)⟩
 ·intro u O B Q;exact⟨B,fun e=>by subst e;exact Q b f z s ⟨k,q,U⟩⟩
 ·intro d L ⟨l,g,m⟩;rcases get d l g with ⟨_,r⟩|⟨rfl,rfl⟩
  ·exact⟨l,r,m⟩
  ·simp at m
 ·intro n hn E d l g m r;rcases get d l r with ⟨_,o⟩|⟨rfl,rfl⟩
  ·exact E d l g m o
  ·exact E d k g m q
theorem Step.alloc {n0:Nat}(hn:n0<=H.length)(y:Sim gid w M μ H)(h:Same w w')(arr:Array Value)(e:TypeId)(k:Blk)(N:k.wr=true)(hsz:k.el.length*k.z<=arr.size)
 (B:∀(i:Nat) (el:V),k.el[i]?=some el->el.isTup=false/\el.cells.length=k.z/\∀(j:Nat) (cv:V),el.cells[j]?=some cv->∃v,arr[i*k.z+j]?=some v/\RC gid w M μ v cv)
 (D:k.arr=true->∀el ∈ k.el,el.pure=true) :
 Step gid n0 w M μ H (w'.alloc (.cells arr e)) (fun c=>M c\/c=w.heap.size) (fun b=>if b=H.length then some (w.heap.size,0,k.z)else μ b) (H++[some k]):=by
 have L:(w'.alloc (.cells arr e)).heap[w.heap.size]?=some (.cells arr e (0,0)):=by rw[<-h.heap];exact heap_alloc_new w' _
 have E:∀c,c<w.heap.size->(w'.alloc (.cells arr e)).heap[c]?=w.heap[c]?:=fun c m=>by
  have:=heap_alloc_old w' (.cells arr e) c (by rw[h.heap];exact m);rw[this,h.heap]
 have O:Keep w M (w'.alloc (.cells arr e)) (fun c=>M c\/c=w.heap.size):=⟨by simp[h.heap],fun c m _=>E c m,fun c m K=>K.resolve_right (by omega)⟩
 have sh:Shape w (w'.alloc (.cells arr e)):=fun c a e' fr m=>⟨a,by rw[E c (Array.getElem?_eq_some_iff.1 m).1];exact m,rfl⟩
 have U:∀b x,μ b=some x->(if b=H.length then some (w.heap.size,0,k.z)else μ b)=some x:=fun b x r=>by
  have:=y.dom b x r;rw[Vk (by omega)];exact r
 have get:∀(t:Nat) (g:Blk),(H++[some k])[t]?=some (some g)->(t<H.length/\H[t]?=some (some g))\/(t=H.length/\g=k):=by
  intro t g u;by_cases C:t<H.length
  ·rw[Vr C]at u;exact .inl ⟨C,u⟩
  ·rw[VD (by omega)]at u;have e:t-H.length=0:=by
    cases hq:t-H.length with
    |zero=>rfl
    |succ q=>rw[hq]at u;simp at u
   rw[e]at u;simp at u;exact .inr ⟨by omega,u.symm⟩
 refine⟨⟨?_,?_,?_,y.tab.keep O⟩,fun b r=>by rw[Vk (by omega)],by simp,by simp[h.heap],fun c m _=>E c m,sh,?_,fun c _ K _=>.inl K,?_,?_,?_,?_,h.os,h.tape,h.output⟩
 ·intro b x T;simp only[Xc,Xx];split at T
  ·omega
  ·have:=y.dom b x T;omega
 ·intro F G c d z o P f l Q S;have s:∀b c d z,μ b=some (c,d,z)->dJ (H++[some k]) b->c<w.heap.size/\dJ H b:=by
   intro b c d z r ⟨g,hk'⟩;rcases get b g hk' with ⟨J,p⟩|⟨p,_⟩
   ·exact⟨(y.blk b c d z g r p).lt,⟨g,p⟩⟩
   ·exact absurd (y.dom b _ r) (by omega)
  split at f<;>split at l
  ·omega
  ·injection f with f;injection f with f _
   have:=(s G c o P l S).1;omega
  ·injection l with l;injection l with l _
   have:=(s F c d z f Q).1;omega
  ·exact y.inj F G c d z o P f l (s F c d z f Q).2 (s G c o P l S).2
 ·intro b c d z g f l;rcases get b g l with ⟨J,p⟩|⟨rfl,rfl⟩
  ·rw[Vk (by omega)]at f;have A:=y.blk b c d z g f p;exact A.mono O sh U (E c A.lt) fun L=>.inl (A.hM L)
  ·rw[Vh rfl]at f;injection f with f
   injection f with f I
   injection I with I W
   subst f;subst I;subst W;refine⟨rfl,fun _=>.inr rfl,(fun h=>by rw[N]at h;cases h),⟨arr,e,L,by omega,fun i el hi=>?_⟩,D⟩;obtain⟨ht,hz,m⟩:=B i el hi;refine⟨ht,hz,fun j cv Y=>?_⟩;obtain⟨v,hv,hr⟩:=m j cv Y;exact⟨v,by rw[W1];exact hv,hr.mono O sh U⟩
 ·intro c m;rcases m with m|m
  ·exact .inl m
  ·exact .inr (by omega)
 ·intro b c d z r f;split at f
  ·injection f with f;injection f with f _;exact .inl (by omega)
  ·exact absurd (y.dom b _ f) (by omega)
 ·intro b r ⟨g,f,l⟩;rcases get b g f with ⟨_,p⟩|⟨p,_⟩
  ·exact⟨g,p,l⟩
  ·omega
 ·intro b r ⟨g,f⟩;rcases get b g f with ⟨_,p⟩|⟨p,_⟩
  ·exact⟨g,p⟩
  ·omega
 ·intro n Z J b g f l p;have l:(if b=H.length then some (w.heap.size,0,k.z)else μ b)≠none:=l;rcases get b g p with ⟨_,A⟩|⟨A,_⟩
  ·rw[Vk (by omega)]at l;exact J b g f l A
  ·omega
theorem Step.write {n0 b c f z:Nat}{k:Blk}(C:Sim gid w M μ H)(D:μ b=some (c,f,z))(A:H[b]?=some (some k))(N:k.wr=true)
 (arr d:Array Value) (e:TypeId) (U:w.heap[c]?=some (.cells arr e (0,0))) (K:d.size=arr.size) (o:List V) (F:f+o.length*z<=arr.size)
 (G:∀(i:Nat) (el:V),o[i]?=some el->el.isTup=false/\el.cells.length=z/\∀(j:Nat) (cv:V),el.cells[j]?=some cv->∃v,d[f+(i*z+j)]?=some v/\RC gid w M μ v cv)
 (J:k.arr=true->∀el ∈ o,el.pure=true)
 (I:∀n,n<=n0->b<n->(∀el ∈ k.el,∀x ∈ el.cells,Low n x)->∀el ∈ o,∀x ∈ el.cells,Low n x) :
 Step gid n0 w M μ H (w.setRow c d) M μ (H.set b (some { k with el:=o })):=by
 have Q:b<H.length:=C.dom b _ D;have y:=C.blk b c f z k D A;have B:=setRow_heap w c arr d e (0,0) U;have q:∀p,p≠c->(w.setRow c d).heap[p]?=w.heap[p]?:=fun p h=>setRow_other w c p d h
 have E:M c:=y.hM N;have T:Keep w M (w.setRow c d) M:=⟨by simp,fun p _ hm=>q p (fun h=>hm (h ▸ E)),fun _ _ h=>h⟩
 have sh:Shape w (w.setRow c d):=by
  intro p a e' fr h;by_cases t:p=c
  ·subst t;rw[U]at h;injection h with h
   injection h with m s u
   subst m;subst s;subst u;exact⟨d,B,K⟩
  ·exact⟨a,by rw[q p t];exact h,rfl⟩
 have get:∀(g:Nat) (r:Blk),(H.set b (some { k with el:=o }))[g]?=some (some r)->(g≠b/\H[g]?=some (some r))\/(g=b/\r={ k with el:=o }):=by
  intro g r h;by_cases e:b=g
  ·subst e;rw[Wk Q]at h;injection h with h;injection h with h;exact .inr ⟨rfl,h.symm⟩
  ·rw[Wc e]at h;exact .inl ⟨fun h'=>e h'.symm,h⟩
 refine⟨⟨fun g x h=>by simpa using C.dom g x h,fun b1 b2 c f z l O m s Y Z=>C.inj b1 b2 c f z l O m s (np (.inr ⟨k,A⟩) Y) (np (.inr ⟨k,A⟩) Z),?_,C.tab.keep T⟩,
  fun _ _=>rfl,by simp,by simp,?_,sh,fun _ h=>.inl h,fun _ _ h _=>h,fun g c f z D h=>absurd (C.dom g _ h) (by omega),?_,fun g _ h=>np (.inr ⟨k,A⟩) h,?_,rfl,rfl,rfl⟩
 ·intro g p l O r m s;rcases get g r s with ⟨S,u⟩|⟨rfl,rfl⟩
  ·have L:=C.blk g p l O r m u;refine L.mono T sh (fun _ _ h=>h) (q p fun e=>?_) L.hM;subst e;exact S (C.inj g b p l O f z m D ⟨r,u⟩ ⟨k,A⟩)
  ·rw[D]at m;injection m with m
   injection m with m P
   injection P with P h6
   subst m;subst P;subst h6;refine⟨y.hz,fun _=>E,(fun h=>by rw[show({ k with el:=o }:Blk).wr=k.wr from rfl,N]at h;cases h),⟨d,e,B,by rw[K];exact F,fun i el hi=>?_⟩,J⟩;obtain⟨ht,hz,t⟩:=G i el hi;refine⟨ht,hz,fun j cv hj=>?_⟩;obtain⟨v,hv,hr⟩:=t j cv hj;exact⟨v,hv,hr.mono T sh (fun _ _ h=>h)⟩
 ·intro p hc' hq;exact q p fun e=>by subst e;exact hq b f z D ⟨k,A,N⟩
 ·intro g hb' ⟨r,m,s⟩;rcases get g r m with ⟨_,u⟩|⟨rfl,rfl⟩
  ·exact⟨r,u,s⟩
  ·exact⟨k,A,N⟩
 ·intro n hn W g r m s u;rcases get g r u with ⟨_,L⟩|⟨rfl,rfl⟩
  ·exact W g r m s L
  ·exact I n hn m (W g k m s A)
theorem Step.regrow {n0 b c m z base':Nat}{k k':Blk}(hn:n0<=H.length)(u:Sim gid w M μ H)(E:μ b=some (c,m,z))(G:H[b]?=some (some k))(hw:k.wr=true)(Y:k'.z=z)(W:k'.wr=true)
 (arr f:Array Value) (e:TypeId) (hc:w.heap[c]?=some (.cells arr e (0,0))) (hsz:f.size=arr.size) (hfit:base'+k'.el.length*z<=arr.size)
 (N:∀(i:Nat) (el:V),k'.el[i]?=some el->el.isTup=false/\el.cells.length=z/\∀(j:Nat) (cv:V),el.cells[j]?=some cv->∃v,f[base'+(i*z+j)]?=some v/\RC gid w M μ v cv)
 (O:k'.arr=true->∀el ∈ k'.el,el.pure=true) :
 Step gid n0 w M μ H (w.setRow c f) M (fun x=>if x=H.length then some (c,base',z)else μ x) (H.set b none++[some k']):=by
 have Z:b<H.length:=u.dom b _ E;have L:=u.blk b c m z k E G;have D:=setRow_heap w c arr f e (0,0) hc;have p:∀t,t≠c->(w.setRow c f).heap[t]?=w.heap[t]?:=fun t h=>setRow_other w c t f h
 have K:M c:=L.hM hw;have kp:Keep w M (w.setRow c f) M:=⟨by simp,fun t _ hm=>p t (fun h=>hm (h ▸ K)),fun _ _ h=>h⟩
 have sh:Shape w (w.setRow c f):=by
  intro t a e' fr h;by_cases B:t=c
  ·subst B;rw[hc]at h;injection h with h
   injection h with d o T
   subst d;subst o;subst T;exact⟨f,D,hsz⟩
  ·exact⟨a,by rw[p t B];exact h,rfl⟩
 have mm:∀x y,μ x=some y->(if x=H.length then some (c,base',z)else μ x)=some y:=fun x y C=>by
  have:=u.dom x y C;rw[Vk (by omega)];exact C
 have get:∀(A:Nat) (q:Blk),(H.set b none++[some k'])[A]?=some (some q)->(A<H.length/\A≠b/\H[A]?=some (some q))\/(A=H.length/\q=k'):=by
  intro A q s;by_cases P:A<H.length
  ·rw[Vr (by simpa using P)]at s;by_cases e:b=A
   ·subst e;rw[Wk Z]at s;cases s
   ·rw[Wc e]at s;exact .inl ⟨P,fun h=>e h.symm,s⟩
  ·rw[VD (by simp;omega)]at s;simp only[abe]at s;have e:A-H.length=0:=by
    cases hq':A-H.length with
    |zero=>rfl
    |succ r=>rw[hq']at s;simp at s
   rw[e]at s;simp at s;exact .inr ⟨by omega,s.symm⟩
 refine⟨⟨?_,?_,?_,u.tab.keep kp⟩,fun x C=>by rw[Vk (by omega)],by simp,by simp,?_,sh,fun _ h=>.inl h,fun _ _ h _=>h,?_,?_,?_,?_,rfl,rfl,rfl⟩
 ·intro x y C;simp only[Xc,abe,Xx];split at C
  ·omega
  ·have:=u.dom x y C;omega
 ·intro Q S F I J o2 z2 d o ⟨q1,a1⟩ ⟨q2,a2⟩;rcases get Q q1 a1 with ⟨l1,n1,g1⟩|⟨l1,_⟩<;>rcases get S q2 a2 with ⟨l2,n2,g2⟩|⟨l2,_⟩
  ·rw[Vk (by omega)]at d o;exact u.inj Q S F I J o2 z2 d o ⟨q1,g1⟩ ⟨q2,g2⟩
  ·rw[Vk (by omega)]at d;rw[Vh l2]at o;injection o with o;injection o with o _
   subst o;exact absurd (u.inj Q b c I J m z d E ⟨q1,g1⟩ ⟨k,G⟩) n1
  ·rw[Vk (by omega)]at o;rw[Vh l1]at d;injection d with d;injection d with d _
   subst d;exact absurd (u.inj S b c o2 z2 m z o E ⟨q2,g2⟩ ⟨k,G⟩) n2
  ·omega
 ·intro x F I J q d o;rcases get x q o with ⟨l,n,g⟩|⟨rfl,rfl⟩
  ·rw[Vk (by omega)]at d;have h4:=u.blk x F I J q d g;refine h4.mono kp sh mm (p F fun e=>?_) h4.hM;subst e;exact n (u.inj x b F I J m z d E ⟨q,g⟩ ⟨k,G⟩)
  ·rw[Vh rfl]at d;injection d with d
   injection d with d U
   injection U with U h6
   subst d;subst U;subst h6;refine⟨Y,fun _=>K,(fun h=>by rw[W]at h;cases h),⟨f,e,D,by omega,fun i el hi=>?_⟩,O⟩;obtain⟨ht,hz,B⟩:=N i el hi;refine⟨ht,hz,fun j cv hj=>?_⟩;obtain⟨v,hv,hr⟩:=B j cv hj;exact⟨v,hv,hr.mono kp sh mm⟩
 ·intro t hc' s;exact p t fun e=>by subst e;exact s b m z E ⟨k,G,hw⟩
 ·intro x F I J C d;split at d
  ·injection d with d;injection d with d _
   subst d;exact .inr ⟨b,m,z,E,k,G,hw⟩
  ·exact absurd (u.dom x _ d) (by omega)
 ·intro x C ⟨q,d,o⟩;rcases get x q d with ⟨_,_,g⟩|⟨l,_⟩
  ·exact⟨q,g,o⟩
  ·omega
 ·intro x C ⟨q,d⟩;rcases get x q d with ⟨_,_,g⟩|⟨l,_⟩
  ·exact⟨q,g⟩
  ·omega
 ·intro n hn' P x q d o T;have o:(if x=H.length then some (c,base',z)else μ x)≠none:=o;rcases get x q T with ⟨_,_,g⟩|⟨l,_⟩
  ·rw[Vk (by omega)]at o;exact P x q d o g
  ·omega
end Go.Abs
namespace Go.Abs
variable {gid : Gid} {w : World} {M : Nat → Prop} {μ : bp} {H : ab}
theorem q5v {el:V}(h:el.pure=true){j:Nat}{c:V}(a:el.cells[j]?=some c):c.cellPure=true:=
 VU.1 h c (VX a)
theorem ua (J:Sim gid w M μ H){b z off len:Nat}{k:Blk}{v:Value}(E:H[b]?=some (some k))
 (I:RC gid w M μ v (.ref b z off len)) :
 ∃(a:Addr) (cap c d:Nat) (arr:Array Value) (e:TypeId),v=.slice (some a) len cap/\a.block=c/\a.spot=none/\len<=cap/\μ b=some (c,d,z)/\(cap=0\/a.off=d+off*z) /\
  w.heap[c]?=some (.cells arr e (0,0))/\a.off+cap*z<=arr.size /\
  ∀(i:Nat) (el:V),((k.el.drop off).take len)[i]?=some el->el.isTup=false/\el.cells.length=z/\(k.arr=true->el.pure=true) /\
   ∀(j:Nat) (cv:V),el.cells[j]?=some cv->∃x,arr[a.off+(i*z+j)]?=some x/\RC gid w M μ x cv:=by
 cases I with
 |p h=>cases h
 |ref b z off len c d cap a arr e fr m C o l f n s=>
  have y:=J.blk b c d z k m E;obtain⟨g,A,u,Q,B⟩:=y.lay;rw[u]at n;injection n with n
  injection n with N O P
  subst N;subst O;subst P;refine⟨a,cap,c,d,g,A,rfl,C,o,l,m,f,u,s,fun i el hi=>?_⟩;rw[WQ]at hi;split at hi
  ·rename_i F;rw[Ws]at hi;obtain⟨K,t,q⟩:=B _ el hi;refine⟨K,t,fun o=>y.pur o el (VX hi),fun j cv D=>?_⟩;obtain⟨x,L,r⟩:=q j cv D;refine⟨x,?_,r⟩;have G:a.off=d+off*z:=f.resolve_left (by omega);rw[G,<-L]
   congr 1
   rw[VI];omega
  ·cases hi
theorem vT (C:Sim gid w M μ H){b z off len:Nat}{k:Blk}{v:Value}(A:H[b]?=some (some k))(y:k.arr=true)(s:off+len<=k.el.length)
 (B:RC gid w M μ v (.ref b z off len)) {M':Nat->Prop} (E:Keep w M w M') (m:∀c d,μ b=some (c,d,z)->¬M' c):RP gid w M' v (.sl ((k.el.drop off).take len)):=by
 obtain⟨a,cap,c,d,arr,e,rfl,n,p,g,r,t,u,D,f⟩:=ua C A B;have h:((k.el.drop off).take len).length=len:=by simp;omega
 refine .sl a len cap z _ (fun i j=>(arr[a.off+(i*z+j)]?).getD Go.undef) h.symm (fun _=>p) ?_ ?_ g ?_ ?_ ?_
 ·intro _;rw[n];exact m c d r
 ·intro _;rw[n];exact(Array.getElem?_eq_some_iff.1 u).1
 ·exact fun i el hi=>(f i el hi).2.1
 ·intro i el j cv hi l;obtain⟨x,q,_⟩:=(f i el hi).2.2.2 j cv l;rw[n,cell_of_row w c _ arr e (0,0) u,q];rfl
 ·intro i el j cv hi l;obtain⟨x,q,o⟩:=(f i el hi).2.2.2 j cv l;rw[q];exact(o.pure (q5v ((f i el hi).2.2.1 y) l)).keep E
theorem DS {n0:Nat}(q:Sim gid w M μ H){c A:V}{H1:ab}(h:bm H c=some (A,H1)){v:Value}(m:RC gid w M μ v c) :
 ∃B,Step gid n0 w M μ H w B μ H1/\RC gid w B μ v A/\H1.length=H.length:=by
 have same:∀{x:V},c=x->bm H x=some (x,H)->∃B,Step gid n0 w M μ H w B μ H1/\RC gid w B μ v A/\H1.length=H.length:=by
  intro x P K;subst P;rw[K]at h;injection h with h
  injection h with u j
  subst u;subst j;exact⟨M,.refl q,m,rfl⟩
 cases c with
 |nil=>
  simp only[bm]at h;injection h with h;injection h with u j
  subst u;subst j;cases m with
  |p m=>cases m;exact⟨M,.refl q,.p .sl0,rfl⟩
 |emp=>
  simp only[bm]at h;injection h with h;injection h with u j
  subst u;subst j;cases m with
  |p m=>exact⟨M,.refl q,.p m.emp_sl,rfl⟩
 |ref b z off len=>
  simp only[bm]at h;split at h
  ·rename_i k C;split at h
   ·rename_i y;obtain⟨F,hz,t⟩:=y;injection h with h;injection h with u j
    subst u;obtain⟨a,cap,Q,E,arr,e,rfl,S,N,G,D,I,T,O,J⟩:=ua q C m;by_cases r:k.wr=true
    ·rw[Vh r]at j;subst j;have st:=Step.freeze (n0:=n0) q D C r;exact⟨_,st,.p (vT q C F t m (st.keep q) (fun A f d L=>by rw[D]at d;injection d with d;injection d with d _;exact L.2 d.symm)),by simp⟩
    ·rw[Vk r]at j;subst j;exact⟨M,.refl q,.p (vT q C F t m (Keep.refl w M) (fun A f d=>(q.blk b A f z k d C).hF (by simpa using r))),rfl⟩
   ·cases h
  ·cases h
 |agg cs=>simp[bm]at h
 |tup cs=>simp[bm]at h
 |bool b=>exact same rfl rfl
 |int k n=>exact same rfl rfl
 |str s=>exact same rfl rfl
 |sl l=>exact same rfl rfl
 |ptr b i o=>exact same rfl rfl
 |eptr cs=>exact same rfl rfl
 |fn g cap=>exact same rfl rfl
 |nilfn=>exact same rfl rfl
theorem q2x {n0:Nat}:∀(cs:List V) {H:ab} {M:Nat->Prop} (_:Sim gid w M μ H) {a:List V} {H1:ab} (_:cq H cs=some (a,H1)) {vs:List Value}
 (_:vs.length=cs.length) (_:∀(i:Nat) (v:Value) (c:V),vs[i]?=some v->cs[i]?=some c->RC gid w M μ v c),
 ∃o,Step gid n0 w M μ H w o μ H1/\vs.length=a.length/\(∀(i:Nat) (v:Value) (c:V),vs[i]?=some v->a[i]?=some c->RC gid w o μ v c)/\H1.length=H.length
 | [],H,M,j,a,H1,h,vs,f,g=>by
  simp only[cq]at h;injection h with h;injection h with l m
  subst l;subst m;exact⟨M,.refl j,f,g,rfl⟩
 |c :: cs,H,M,j,a,H1,h,vs,f,g=>by
  simp only[cq,Vz]at h;obtain⟨⟨E,B⟩,l,⟨p,C⟩,m,b⟩:=h;injection b with b;injection b with b s
  subst b;subst s;cases vs with
  |nil=>simp at f
  |cons v vs=>
   obtain⟨D,k,z,t⟩:=DS (n0:=n0) j l (g 0 v c rfl rfl);obtain⟨r,q,u,A,n⟩:=q2x cs k.sim m (vs:=vs) (by simpa using f) (fun i x y d e=>k.rc j (g (i+1) x y (by simpa using d) (by simpa using e)));refine⟨r,k.trans q,by simp[u],fun i x y d e=>?_,n.trans t⟩;cases i with
   |zero=>simp at d e;subst d;subst e;exact q.rc k.sim z
   |succ i=>exact A i x y (by simpa using d) (by simpa using e)
theorem Cv {n0:Nat}(m:Sim gid w M μ H){c f:V}{H1:ab}(h:aF H c=some (f,H1)){v:Value}(a:R gid w M μ v c) :
 ∃b,Step gid n0 w M μ H w b μ H1/\R gid w b μ v f/\H1.length=H.length:=by
 cases a with
 |c a=>
  have n:bm H c=some (f,H1):=by
   have:=a.isCell;cases c<;>first|exact h|cases this
  obtain⟨b,s,r,l⟩:=DS (n0:=n0) m n a;exact⟨b,s,.c r,l⟩
 |agg arr cs e a=>
  simp only[aF,Vz]at h;obtain⟨⟨g,u⟩,o,d⟩:=h;injection d with d;injection d with d p
  subst d;subst p;obtain⟨b,s,l,r,q⟩:=q2x (n0:=n0) cs m o (vs:=arr.toList) (by simpa using e) (fun i x y j k=>a i x y (by simpa using j) k);exact⟨b,s,.agg arr g (by simpa using l) (fun i x y j k=>r i x y (by simpa using j) k),q⟩
 |tup arr t e a=>simp[aF,bm]at h
def Rs (gid:Gid)(w:World)(M:Nat->Prop)(μ:bp)(vs:List Value)(cs:List V):Prop:=
 vs.length=cs.length/\∀(i:Nat) (v:Value) (c:V),vs[i]?=some v->cs[i]?=some c->R gid w M μ v c
theorem Rs.cons {v:Value}{c:V}{vs:List Value}{cs:List V}(h:R gid w M μ v c)(d:Rs gid w M μ vs cs):Rs gid w M μ (v :: vs) (c :: cs):=
 ⟨by simp[d.1],fun i x y a b=>by
  cases i with
  |zero=>simp at a b;subst a;subst b;exact h
  |succ i=>exact d.2 i x y (by simpa using a) (by simpa using b)⟩
theorem Rs.tail {v:Value}{c:V}{vs:List Value}{cs:List V}(a:Rs gid w M μ (v :: vs) (c :: cs)):R gid w M μ v c/\Rs gid w M μ vs cs:=
 ⟨a.2 0 v c rfl rfl,by simpa using a.1,fun i x y b d=>a.2 (i+1) x y (by simpa using b) (by simpa using d)⟩
theorem Rs.step {n0:Nat}{w':World}{M':Nat->Prop}{μ':bp}{a:ab}(st:Step gid n0 w M μ H w' M' μ' a)(b:Sim gid w M μ H){vs:List Value}{cs:List V}(h:Rs gid w M μ vs cs):Rs gid w' M' μ' vs cs:=
 ⟨h.1,fun i x y c d=>st.r b (h.2 i x y c d)⟩
theorem Eg {n0:Nat}:∀(cs:List V) {H:ab} {M:Nat->Prop} (_:Sim gid w M μ H) {a:List V} {H1:ab} (_:ah H cs=some (a,H1)) {vs:List Value} (_:Rs gid w M μ vs cs),
 ∃j,Step gid n0 w M μ H w j μ H1/\Rs gid w j μ vs a/\H1.length=H.length
 | [],H,M,e,a,H1,h,vs,d=>by
  simp only[ah]at h;injection h with h;injection h with g i
  subst g;subst i;exact⟨M,.refl e,d,rfl⟩
 |c :: cs,H,M,e,a,H1,h,vs,d=>by
  simp only[ah,Vz]at h;obtain⟨⟨x,s⟩,g,⟨k,t⟩,i,b⟩:=h;injection b with b;injection b with b n
  subst b;subst n;cases vs with
  |nil=>have:=d.1;simp at this
  |cons v vs=>
   obtain⟨u,f,q,o⟩:=Cv (n0:=n0) e g d.tail.1;obtain⟨m,l,r,p⟩:=Eg cs f.sim i (Rs.step f e d.tail.2);exact⟨m,f.trans l,Rs.cons (l.r f.sim q) r,p.trans o⟩
theorem E3 {n0:Nat}(j:Sim gid w M μ H){c d:V}{H1:ab}(h:d6 H c=some (d,H1)){v:Value}(i:R gid w M μ v c) :
 ∃b,Step gid n0 w M μ H w b μ H1/\R gid w b μ v d/\d.pure=true/\H1.length=H.length:=by
 simp only[d6,Vz]at h;obtain⟨⟨m,k⟩,e,a⟩:=h;simp only[]at a;split at a
 ·rename_i g;injection a with a;injection a with a f
  subst a;subst f;obtain⟨b,s,r,l⟩:=Cv (n0:=n0) j e i;exact⟨b,s,r,g,l⟩
 ·cases a
theorem FI {n0:Nat}:∀(cs:List V) {H:ab} {M:Nat->Prop} (_:Sim gid w M μ H) {a:List V} {H1:ab} (_:gM H cs=some (a,H1)) {vs:List Value} (_:Rs gid w M μ vs cs),
 ∃k,Step gid n0 w M μ H w k μ H1/\Rs gid w k μ vs a/\(∀c ∈ a,c.pure=true)/\H1.length=H.length
 | [],H,M,e,a,H1,h,vs,d=>by
  simp only[gM]at h;injection h with h;injection h with g i
  subst g;subst i;exact⟨M,.refl e,d,by simp,rfl⟩
 |c :: cs,H,M,e,a,H1,h,vs,d=>by
  simp only[gM,Vz]at h;obtain⟨⟨B,y⟩,g,⟨l,z⟩,i,b⟩:=h;injection b with b;injection b with b o
  subst b;subst o;cases vs with
  |nil=>have:=d.1;simp at this
  |cons v vs=>
   obtain⟨A,f,t,r,p⟩:=E3 (n0:=n0) e g d.tail.1;obtain⟨n,m,u,s,q⟩:=FI cs f.sim i (Rs.step f e d.tail.2);refine⟨n,f.trans m,Rs.cons (m.r f.sim t) u,fun x j=>?_,q.trans p⟩;rcases Wz.1 j with rfl|j
   ·exact r
   ·exact s x j
end Go.Abs
namespace Go.Abs
variable {gid : Gid} {w w0 : World} {M M0 : Nat → Prop} {μ μ0 : bp} {H H0 : ab} {n0 : Nat}
theorem Low.mono {n m:Nat}(h:n<=m){a:V}(d:Low n a):Low m a:=by
 induction d with
 |cell h=>exact .cell h
 |ref b z off len c=>exact .ref _ _ _ _ (by omega)
 |ptr b i off c=>exact .ptr _ _ _ (by omega)
 |fn g cs _ e=>exact .fn g cs e
theorem Sim.lowH (d:Sim gid w M μ H){n:Nat}(p:H.length<=n):jg n μ H:=by
 intro b k u m l el a c f;obtain⟨⟨e,o,z⟩,r⟩:=Option.ne_none_iff_exists'.1 m;obtain⟨arr,t,y,A,s⟩:=(d.blk b e o z k r l).lay;obtain⟨i,hi⟩:=Wa a;obtain⟨j,g⟩:=Wa f;obtain⟨v,_,q⟩:=(s i el hi).2.2 j c g;exact(q.toLow fun b x h=>d.dom b x h).mono p
theorem R.pureAny {v:Value}{c:V}(h:R gid w M μ v c)(a:c.pure=true)(μ':bp):R gid w M μ' v c:=by
 cases h with
 |c h=>exact .c (.p (h.pure (by
  have:=h.isCell;unfold V.pure at a;rw[V.cells_cell this]at a;simpa using a)))
 |agg arr cs b e=>exact .agg arr cs b fun i x y f d=>.p ((e i x y f d).pure (VU.1 a y (VX d)))
 |tup=>simp[V.pure,V.cells,V.cellPure]at a
def jl (n0 L m:Nat)(μ:bp):bp:=fun b=>if b<n0 then μ b else if b<n0+m then μ (b-n0+L)else none
theorem Step.drop {A J B:ab}(st:Step gid n0 w0 M0 μ0 H0 w M μ (A++J++B))(hA:A.length=n0)(h0:H0.length=n0)(t:jg n0 μ0 H0)
 (S:∀k,some k ∈ B->k.arr=true):Step gid n0 w0 M0 μ0 H0 w M (jl n0 (n0+J.length) B.length μ) (A++B):=by
 have L:=st.sim;have T:=st.low n0 (Vo _) t;have f:∀b,b<n0->(A++J++B)[b]?=(A++B)[b]?:=by
  intro b g;rw[XG,Vr (by omega),Vr (by omega)]
 have s:∀b,n0<=b->(A++J++B)[b-n0+(n0+J.length)]?=(A++B)[b]?:=by
  intro b g;rw[VD (by simp;omega),VD (by omega)]
  congr 1
  simp;omega
 have inv:∀b x,jl n0 (n0+J.length) B.length μ b=some x->(b<n0/\μ b=some x)\/(n0<=b/\b<n0+B.length/\μ (b-n0+(n0+J.length))=some x):=by
  intro b x h;unfold jl at h;split at h
  ·exact .inl ⟨by assumption,h⟩
  ·split at h
   ·exact .inr ⟨by omega,by assumption,h⟩
   ·cases h
 have l:∀b x,jl n0 (n0+J.length) B.length μ b=some x->∃u,μ u=some x/\(A++J++B)[u]?=(A++B)[b]?/\(b<n0/\u=b\/n0<=b/\u=b-n0+(n0+J.length)):=by
  intro b x h;rcases inv b x h with ⟨a,d⟩|⟨a,d,m⟩
  ·exact⟨b,d,f b a,.inl ⟨a,rfl⟩⟩
  ·exact⟨_,m,s b a,.inr ⟨a,rfl⟩⟩
 refine⟨⟨?_,?_,?_,st.sim.tab⟩,?_,by simp;omega,st.size,st.frame,st.shape,st.sub,st.keepM,?_,?_,?_,?_,st.os,st.tape,st.output⟩
 ·intro b x h;rcases inv b x h with ⟨a,_⟩|⟨_,d,_⟩<;>simp<;>omega
 ·intro N O c o z o' z' a d ⟨k1,a1⟩ ⟨k2,a2⟩;obtain⟨q1,y,C,r⟩:=l N _ a;obtain⟨q2,D,P,g6⟩:=l O _ d;have:=L.inj q1 q2 c o z o' z' y D ⟨k1,by rw[C];exact a1⟩ ⟨k2,by rw[P];exact a2⟩;omega
 ·intro b c o z k a d;obtain⟨q,y,C,r⟩:=l b _ a;have p:=L.blk q c o z k y (by rw[C];exact d);obtain⟨arr,e,Y,Z,l3⟩:=p.lay;refine⟨p.hz,p.hM,p.hF,⟨arr,e,Y,Z,fun i el hi=>?_⟩,p.pur⟩;obtain⟨m,E,Q⟩:=l3 i el hi;refine⟨m,E,fun j cv F=>?_⟩;obtain⟨v,hv,K⟩:=Q j cv F;refine⟨v,hv,?_⟩;rcases r with ⟨r,D⟩|⟨r,D⟩
  ·subst D;have:=T q k r (by rw[y];simp) (by rw[C];exact d) el (VX hi) cv (VX F);exact K.low (Keep.refl w M) (Shape.refl w) (n:=n0) (fun b x g W=>by unfold jl;rw[Vh g];exact W) this
  ·have G:k.arr=true:=S k (by
    rw[VD (by omega)]at d;exact VX d)
   exact .p (K.pure (q5v (p.pur G el (VX hi)) F))
 ·intro b g;unfold jl;rw[Vh (by omega)];exact st.ext b g
 ·intro b c o z g a;rcases inv b _ a with ⟨d,_⟩|⟨d,m,E⟩
  ·omega
  ·exact st.fresh _ c o z (by omega) E
 ·intro b g ⟨k,a,d⟩;exact st.wrmono b g ⟨k,by rw[f b (by omega)];exact a,d⟩
 ·intro b g ⟨k,a⟩;exact st.alv b g ⟨k,by rw[f b (by omega)];exact a⟩
 ·intro n U I b k a d m;refine st.low n U I b k a ?_ (by rw[f b (by omega)];exact m);unfold jl at d;rw[Vh (by omega)]at d;exact d
theorem Step.take (st:Step gid n0 w0 M0 μ0 H0 w M μ H)(d:H0.length=n0)(a:jg n0 μ0 H0):∃c,Step gid n0 w0 M0 μ0 H0 w M c (H.take n0):=by
 have f:=st.len;have e:H=H.take n0++H.drop n0++[]:=by simp
 have b:Step gid n0 w0 M0 μ0 H0 w M μ (H.take n0++H.drop n0++[]):=by rw[<-e];exact st
 have:=Step.drop b (by simp;omega) d a (by simp);rw[XB]at this;exact⟨_,this⟩
end Go.Abs
namespace Go.Abs
def je : Value->Option V
 | .bool b=>some (.bool b)
 | .int k n=>some (.int k n)
 | .string s=>some (.str s)
 | .slice none 0 0=>some .nil
 | .nilFunc=>some .nilfn
 |_=>none
def lI : List Value->Option (List V)
 | []=>some []
 |v :: vs=>(je v).bind fun c=>(lI vs).bind fun cs=>some (c :: cs)
def cV : Value->Option V
 | .agg cs=>(lI cs.toList).map .agg
 |v=>je v
structure Tab where
 P:Program
 gid:Gid
def cX (T:Tab):Operand->Option X
 | .tmp t=>some (.t t)
 | .const v=>(cV v).map .c
 | .func f=>(T.gid f).map .f
 | .global g=>(T.gid.tabs g).map fun cs=>.c (.eptr cs)
def kP (T:Tab):List Operand->Option (List X)
 | []=>some []
 |x :: xs=>(cX T x).bind fun c=>(kP T xs).bind fun cs=>some (c :: cs)
def j4 (T:Tab):Option Operand->Option (Option X)
 |none=>some none
 |some x=>(cX T x).map some
def jf (P:Program)(t:TypeId):Option Bool:=
 match P.underlying t with
 |some (.struct _)|some (.array _ _)=>some true
 |some _=>some false
 |none=>none
def dS (P:Program)(t:TypeId):Option Nat:=(P.info? t).map (·.size)
def eQ (P:Program)(t:TypeId):Option V:=((P.info? t).bind (·.zero)).bind cV
def ns (P:Program)(t:TypeId):Option TypeId:=
 match P.underlying t with
 |some (.slice e)=>some e
 |_=>none
def qb (P:Program)(t:TypeId):Bool:=
 match P.underlying t with
 |some (.int _)=>true
 |_=>false
def tk (rec:TypeId->Option Nat):List Field->Nat->Option Nat
 | [],o=>some o
 | f :: fs, o => if f.name ≠ "_" ∧ f.offset = o then (rec f.type).bind fun z => tk rec fs (o + z) else none
def dc (P:Program):Nat->TypeId->Option Nat
 |0,_=>none
 |d+1,t=>
  match P.underlying t with
  |some (.int _)=>some 1
  |some (.struct fs)=>if P.stoodInHeld t=true then none else(tk (dc P d) fs.toList 0).bind fun n=>if dS P t=some n then some n else none
  |_=>none
def qi (P:Program)(t:TypeId):Option BK:=
 match P.underlying t with
 |some (.int _)=>some .num
 |some .bool=>some .bool
 |some (.slice _)=>some .slice
 |some .string=>some .str
 |some (.struct _)=>if P.eqGuardType P.depth t=true then none else(dc P 8 t).map .ints
 |_=>none
def pj (T:Tab)(place:Nat->Option (Nat × Nat)):List (Nat × Operand)->Option (List (Nat × Nat × X))
 | []=>some []
 | (i,x) :: ps=>(place i).bind fun(off,size)=>(cX T x).bind fun c=>(pj T place ps).bind fun cs=>some ((off,size,c) :: cs)
def td (T:Tab):List (Nat × Operand)->Option (List (Nat × X))
 | []=>some []
 | (i,x) :: ps=>(cX T x).bind fun c=>(td T ps).bind fun cs=>some ((i,c) :: cs)
def u5 (P:Program)(fs:Array Field)(i:Nat):Option (Nat × Nat):=
 match fs[i]? with
 |some f=>(dS P f.type).map fun z=>(f.offset,z)
 |none=>none
def MP (P:Program)(fs:List Field):Bool:=fs.all fun f=>(dS P f.type).isSome
def c7 (T:Tab)(op:Op):Option AOp:=
 let P:=T.P
 match op with
 | .move x| .assign x=>(cX T x).map .mv
 | .pick c a b=>(cX T c).bind fun c=>(cX T a).bind fun a=>(cX T b).map fun b=>.pick c a b
 | .alloc t=>(eQ P t).bind fun v=>(dS P t).bind fun z=>if v.cells.length=z then some (.new z v)else none
 | .box t x=>(dS P t).bind fun z=>(cX T x).map fun x=>.box z x
 | .build t ps=>
  match P.underlying t with
  |some (.struct fs)=>if MP P fs.toList then(eQ P t).bind fun z=>(pj T (u5 P fs) ps.toList).map fun ps=>.build z.cells ps else none
  |some (.array _ e)=>(eQ P t).bind fun z=>(dS P e).bind fun s=>(pj T (fun i=>some (i*s,s)) ps.toList).map fun ps=>.build z.cells ps
  |_=>none
 | .buildSlice t len ps=>
  (ns P t).bind fun e=>(eQ P e).bind fun v=>(dS P e).bind fun z=>(td T ps.toList).bind fun ps=>
   if v.cells.length=z/\0<z/\len*z<=16777216 then some (.bslice z len v ps)else none
 | .load t x=>(jf P t).bind fun ag=>(dS P t).bind fun z=>(cX T x).map fun x=>.load ag z x
 | .store t a x=>(dS P t).bind fun z=>(cX T a).bind fun a=>(cX T x).map fun x=>.store z a x
 | .binOp op t x y _=>(qi P t).bind fun bk=>(cX T x).bind fun x=>(cX T y).map fun y=>.bin bk op x y
 | .unOp op _ x=>(cX T x).map fun x=>.un op x
 | .convert src dst x=>
  match P.underlying src,P.underlying dst with
  |some _,some (.int k)=>(cX T x).map fun x=>.conv k x
  |_,_=>none
 | .makeFunc (.func f) first caps=>if first.size=0 then(T.gid f).bind fun g=>(kP T caps.toList).map fun cs=>.mkfn g cs else none
 | .makeSlice t l c=>
  (ns P t).bind fun e=>(eQ P e).bind fun v=>(dS P e).bind fun z=>(P.info? e).bind fun i=>(cX T l).bind fun l=>(cX T c).bind fun c=>
   if v.cells.length=z/\0<z then some (.mkslice z i.bytes v.soft l c)else none
 | .slice t x lo hi mx=>
  (ns P t).bind fun e=>(dS P e).bind fun z=>(cX T x).bind fun x=>(j4 T lo).bind fun lo=>(j4 T hi).bind fun hi=>(j4 T mx).bind fun mx=>
   if mx.isSome/\hi.isNone then none else some (.slice z x lo hi mx)
 | .fieldAddr s x f=>
  match P.underlying s with
  |some (.struct fs)=>
   (fs[f]?).bind fun f=>(dS P f.type).bind fun z=>(cX T x).bind fun x=>if z=0 then none else some (.faddr f.offset x)
  |_=>none
 | .field t x f=>
  match P.underlying t with
  |some (.struct fs)=>(fs[f]?).bind fun f=>(jf P f.type).bind fun ag=>(dS P f.type).bind fun z=>(cX T x).map fun x=>.field ag f.offset z x
  |_=>none
 | .indexAddr t x i=>
  match P.underlying t with
  |some (.slice e)=>(dS P e).bind fun z=>(cX T x).bind fun x=>(cX T i).map fun i=>.iaddr z x i
  |some (.array n e)=>(dS P e).bind fun z=>(cX T x).bind fun x=>(cX T i).map fun i=>.aiaddr n z x i
  |_=>none
 | .index t x i=>
  match P.underlying t with
  |some (.array n e)=>(jf P e).bind fun ag=>(dS P e).bind fun z=>(cX T x).bind fun x=>(cX T i).map fun i=>.index ag n z x i
  |some .string=>(cX T x).bind fun x=>(cX T i).map fun i=>.sindex x i
  |_=>none
 | .extract x i=>(cX T x).map fun x=>.extract i x
 | .call { callee:=.builtin .len,args,argTypes }=>
  match args.toList,argTypes[0]? with
  | [x],some t=>
   match P.underlying t with
   |some (.slice _)=>(cX T x).map fun x=>.len x
   |some .string=>(cX T x).map fun x=>.slen x
   |some (.array n _)=>(cX T x).map fun x=>.lenc n x
   |_=>none
  |_,_=>none
 | .call { callee:=.builtin .cap,args,argTypes }=>
  match args.toList,argTypes[0]? with
  | [x],some t=>
   match P.underlying t with
   |some (.slice _)=>(cX T x).map fun x=>.capn x
   |_=>none
  |_,_=>none
 | .call { callee:=.builtin .append,args,argTypes }=>
  match args.toList,argTypes.toList with
  | [x,y],[t,u]=>
   if qb P u then
    (ns P t).bind fun e=>(dS P e).bind fun z=>(P.info? e).bind fun i=>(eQ P e).bind fun v=>(cX T x).bind fun x=>(cX T y).bind fun y=>
     if 0<z/\v.cells.length=z/\0<i.bytes then some (.appendZ z i.bytes v x y)else none
   else
   (ns P t).bind fun e=>(ns P u).bind fun _=>(dS P e).bind fun z=>(P.info? e).bind fun i=>(eQ P e).bind fun v=>(cX T x).bind fun x=>(cX T y).bind fun y=>
    if 0<z/\v.cells.length=z/\0<i.bytes then some (.append z i.bytes x y)else none
  |_,_=>none
 | .call { callee:=.builtin .copy,args,argTypes }=>
  match args.toList,argTypes.toList with
  | [x,y],[t,_]=>
   (ns P t).bind fun e=>(dS P e).bind fun z=>(cX T x).bind fun x=>(cX T y).bind fun y=>if 0<z then some (.copy z x y)else none
  |_,_=>none
 | .call { callee:=.builtin .min,args,.. }=>
  match args.toList with
  | [x,y]=>(cX T x).bind fun x=>(cX T y).map fun y=>.min x y
  |_=>none
 | .call { callee:=.builtin .max,args,.. }=>
  match args.toList with
  | [x,y]=>(cX T x).bind fun x=>(cX T y).map fun y=>.max x y
  | [x,y,z]=>(cX T x).bind fun x=>(cX T y).bind fun y=>(cX T z).map fun z=>.max3 x y z
  |_=>none
 | .call { callee:=.value f,args,.. }=>(cX T f).bind fun f=>(kP T args.toList).map fun q=>.call f q
 |_=>none
def AOp.loud : AOp->Bool
 | .box .. | .new .. | .bslice .. | .load .. | .store .. | .storeN .. | .mkslice .. | .append .. | .appendZ .. | .copy .. | .call ..=>true
 |_=>false
def X.reads : X->List Nat
 | .t i=>[i]
 |_=>[]
def OX.reads : Option X->List Nat
 |some x=>x.reads
 |none=>[]
def AOp.reads : AOp->List Nat
 | .mv x| .box _ x| .load _ _ x| .un _ x| .conv _ x| .faddr _ x| .field _ _ _ x| .extract _ x| .len x| .slen x| .lenc _ x| .capn x=>x.reads
 | .pick c a b=>c.reads++a.reads++b.reads
 | .new ..=>[]
 | .build _ ps=>ps.flatMap fun p=>p.2.2.reads
 | .bslice _ _ _ ps=>ps.flatMap fun p=>p.2.reads
 | .plit _ _ _ ps=>ps.flatMap fun p=>p.2.reads
 | .sload _ _ t=>[t]
 | .storeN _ a x _=>a.reads++x.reads
 | .store _ a x| .bin _ _ a x| .mkslice _ _ _ a x| .iaddr _ a x| .aiaddr _ _ a x| .index _ _ _ a x| .sindex a x| .append _ _ a x| .appendZ _ _ _ a x| .copy _ a x| .min a x| .max a x=>a.reads++x.reads
 | .mkfn _ cs=>cs.flatMap X.reads
 | .max3 x y z=>x.reads++y.reads++z.reads
 | .slice _ x lo hi mx=>x.reads++OX.reads lo++OX.reads hi++OX.reads mx
 | .call x q=>x.reads++q.flatMap X.reads
def AOper.reads (o:AOper):List Nat:=
 o.op.reads++(match o.guard with|some (t,_)=>[t] |none=>[])
def tW (bits:List Nat)(after:List Edge):Nat:=
 after.foldl (fun s e=>if Region.binds .any e then s |||2^e.on |||bits.getD e.on 0 else s) 0
def eW : List Oper->List Nat->List Nat
 | [],acc=>acc
 |o :: os,acc=>eW os (acc++[tW acc o.after.toList])
def qQ (i:Nat)(o:Oper):Bool:=o.after.toList.all fun e=>!Region.binds .any e ||decide (e.on<i)
def uM (a b:AOper):Bool:=
 (match a.dst with
  |some d=>b.reads.contains d ||b.dst == some d
  |none=>false) ||
 (match b.dst with
  |some d=>a.reads.contains d
  |none=>false)
def gL (bits:List Nat)(i j:Nat):Bool:=(bits.getD j 0).testBit i
def eY : AOp->Bool
 | .append ..=>true
 |_=>false
def rY (bits:List Nat)(i j:Nat)(a b:AOper):Bool:=
 (match a.op with
  | .sload _ _ t=>b.dst != some t&&(!(b.sync&&b.op.loud) ||gL bits i j || (match b.op with| .storeN _ _ _ av=>av.contains t|_=>false))
  |_=>true) &&
 (match b.op with
  | .sload ..=>!(a.sync&&a.op.loud) ||gL bits i j ||eY a.op
  |_=>true)
def um (bits:List Nat)(i j:Nat)(a b:AOper):Bool:=
 rY bits i j a b&&(!uM a b ||gL bits i j)&&(!((a.sync&&b.op.loud) || (b.sync&&a.op.loud)) ||gL bits i j)
def rV (a:AOper):Bool:=
 match a.op with
 | .sload _ _ t=>a.dst != some t
 |_=>true
def ul (bits:List Nat)(l:List AOper):Bool:=
 l.all rV&&(List.range l.length).all fun j=>(List.range j).all fun i=>
  match l[i]?,l[j]? with
  |some a,some b=>um bits i j a b
  |_,_=>false
def AOp.turns : AOp->Bool
 | .bslice .. | .store .. | .storeN .. | .append .. | .appendZ .. | .copy .. | .call ..=>true
 |_=>false
def Lu : AOp->Bool
 | .sload ..=>true
 |_=>false
def Q3 : AOp->AOp->Bool
 | .storeN _ _ _ av,.sload _ _ t=>av.contains t
 |_,_=>false
def lZ (late:Bool)(bits:List Nat)(l:List AOper)(i:Nat)(o:AOper):Bool:=
 o.op.turns&&(List.range l.length).all fun j=>
  if j=i then true else
  match l[j]? with
  |some b=>!(b.op.loud || (late&&Lu b.op&&!Q3 o.op b.op)) || (if j<i then gL bits j i else gL bits i j)
  |none=>false
def Lv : AOp->Bool
 | .store ..=>true
 |_=>false
def wA (bits:List Nat)(l:List AOper)(i:Nat)(o:AOper):Option Nat:=
 match o.op with
 | .load _ _ (.t t)=>if(List.range l.length).any fun j=>decide (i<j)&&(match l[j]? with|some b=>Lv b.op|none=>false)&&!gL bits i j then some t else none
 |_=>none
def lO : X->Bool
 | .c (.int _ _)=>true
 |_=>false
def ja : AOp->Option (List V)
 | .bslice z len zero parts=>
  if(zero.cells.length=z/\zero.pure=true)/\parts.all (fun p=>lO p.2)=true then
   (er z (List.replicate len zero) (parts.map fun p=>(p.1,am (fun _=>.undef) p.2))).bind fun el=>if 0+len<=el.length then some ((el.drop 0).take len)else none
  else none
 |_=>none
def BP (bits:List Nat)(l:List AOper)(o:AOper):Bool:=
 match o.dst with
 |some d=>(List.range l.length).any fun k=>match l[k]? with
  |some b=>(match b.op with| .call _ _=>b.reads.contains d&&!lZ false bits l k b|_=>false)
  |none=>false
 |none=>false
def ow (bits:List Nat)(l:List AOper)(i:Nat)(o:AOper):AOp:=
 match o.op with
 | .load ag z (.t t)=>if(wA bits l i o).isSome then .sload ag z t else .load ag z (.t t)
 | .store z a x=>
  match (List.range i).filterMap fun k=>(l[k]?).bind fun b=>if gL bits k i then none else wA bits l k b with
  | []=>.store z a x
  |av=>.storeN z a x av
 | .bslice z len zero parts=>
  match ja (.bslice z len zero parts)with
  |some els=>if BP bits l o then .mv (.c (.sl els))else .bslice z len zero parts
  |none=>.bslice z len zero parts
 |op=>op
def lW (bits:List Nat)(l:List AOper):List AOper:=l.mapIdx fun i o=>{ o with op:=ow bits l i o }
def j3 (T:Tab)(ops:Array Oper)(o:Oper):Option AOper:=
 (c7 T o.op).bind fun op=>
  match o.guard with
  |none=>some ⟨o.dst,op,none,false⟩
  |some (j,want)=>((ops[j]?).bind (·.dst)).map fun t=>⟨o.dst,op,some (t,want),false⟩
def uk (T:Tab)(ops:Array Oper):List Oper->Option (List AOper)
 | []=>some []
 |o :: os=>(j3 T ops o).bind fun a=>(uk T ops os).bind fun q=>some (a :: q)
def pk (n:Nat)(l:List AOper):Bool:=l.all fun o=>match o.dst with|some d=>decide (d<n)|none=>true
def qI (late:Bool)(bits:List Nat)(l:List AOper):List AOper:=(lW bits l).mapIdx fun i o=>{ o with sync:=lZ late bits (lW bits l) i o }
def Kx (bits:List Nat)(l:List AOper)(i:Nat):Bool:=(List.range i).any fun j=>match l[j]? with|some b=>eY b.op&&!gL bits j i|none=>false
def Ta (l:List AOper)(o:AOper):Bool:=
 match o.dst with
 |some d=>l.any fun b=>eY b.op&&b.reads.contains d
 |none=>false
def DL (bits:List Nat)(l:List AOper)(i:Nat)(o:AOper):AOp:=
 match o.op with
 | .load ag z (.t t)=>if Kx bits l i then .sload ag z t else .load ag z (.t t)
 | .bslice z len zero parts=>if Ta l o then .plit z len zero parts else .bslice z len zero parts
 |op=>op
def Bz (bits:List Nat)(l:List AOper):List AOper:=l.mapIdx fun i o=>{ o with op:=DL bits l i o }
def uG (bits:List Nat)(l:List AOper):List AOper:=(Bz bits l).mapIdx fun i o=>{ o with sync:=lZ false bits (Bz bits l) i o }
def Nl (l:List AOper):Bool:=decide (2<=(l.filter fun o=>eY o.op).length)
def lA (bits:List Nat)(l:List AOper):List AOper:=if(Nl l&&ul bits (uG bits l))=true then uG bits l else if ul bits (qI false bits l)then qI false bits l else qI true bits l
def Bm (T:Tab)(n:Nat)(ops:Array Oper)(draw:Bool):Option AC:=
 (uk T ops ops.toList).bind fun l=>
  if pk n l then
   if draw then
    let bits:=eW ops.toList []
    let l':=lA bits l
    if((List.range ops.size).all fun i=>match ops[i]? with|some o=>qQ i o|none=>false)&&ul bits l' then some (.region true l')else none
   else some (.region false l)
  else none
def cF (T:Tab)(n:Nat):Code->Option AC
 | .skip=>some .skip
 | .region _ ops draw=>some ((Bm T n ops draw).getD .stop)
 | .seq a b=>(cF T n a).bind fun a=>(cF T n b).map fun b=>.seq a b
 | .cond c a b=>(cX T c).bind fun c=>(cF T n a).bind fun a=>(cF T n b).map fun b=>.cond c a b
 | .block id c=>(cF T n c).map fun c=>.block id c
 | .loop c=>(cF T n c).map fun c=>.loop c
 | .scope c=>(cF T n c).map fun c=>.scope c
 | .label _=>some .skip
 | .exit id=>some (.exit id)
 | .ret=>some .ret
 |_=>some .stop
def DP (T:Tab):ResultVar->Option RV
 | .tmp t=>some (.tmp t)
 | .cell a t=>(jf T.P t).bind fun ag=>(dS T.P t).map fun z=>.cell a ag z
def gY (T:Tab):List ResultVar->Option (List RV)
 | []=>some []
 |r :: rs=>(DP T r).bind fun c=>(gY T rs).bind fun cs=>some (c :: cs)
def mn (T:Tab)(f:Func):Option (List RV × AC):=
 if f.name = "runtime.NumGoroutine" then none else
 f.body.bind fun c=>(cF T f.ntmps c).bind fun c=>(gY T f.results.toList).map fun rs=>(rs,c)
variable {T : Tab} {w : World} {M : Nat → Prop} {μ : bp} {H : ab} {gid : Gid}
def ERel (gid:Gid)(w:World)(M:Nat->Prop)(μ:bp)(tmps:Array Value)(E:aA):Prop:=∀i,R gid w M μ (tmps.getD i Go.undef) (E i)
def Out (gid:Gid)(n0:Nat)(w:World)(M:Nat->Prop)(μ:bp)(H:ab)(r:Result Next)(v:V)(H1:ab):Prop:=
 ∃v' w' M' μ',(r=.ok (.value v') w'\/(r=.ok .skip w'/\v'=Go.undef))/\Step gid n0 w M μ H w' M' μ' H1/\R gid w' M' μ' v' v
theorem Out.pure {n0:Nat}(b:Sim gid w M μ H){r:Result Next}{v:V}{v':Value}(h:r=.ok (.value v') w)(a:R gid w M μ v' v):Out gid n0 w M μ H r v H:=
 ⟨v',w,M,μ,.inl h,.refl b,a⟩
theorem R.inv_bool {v:Value}{b:Bool}(h:R gid w M μ v (.bool b)):v=.bool b:=by cases h with|c h=>cases h with|p h=>cases h;rfl
theorem R.inv_int {v:Value}{k:IntKind}{n:Int}(h:R gid w M μ v (.int k n)):v=.int k n:=by cases h with|c h=>cases h with|p h=>cases h;rfl
theorem R.inv_str {v:Value}{s:ByteArray}(h:R gid w M μ v (.str s)):v=.string s:=by cases h with|c h=>cases h with|p h=>cases h;rfl
theorem R.inv_nil {v:Value}(h:R gid w M μ v .nil):v=.slice none 0 0:=by cases h with|c h=>cases h with|p h=>cases h;rfl
theorem R.inv_agg {v:Value}{cs:List V}(h:R gid w M μ v (.agg cs)):∃arr,v=.agg arr/\arr.size=cs.length/\∀(i:Nat) (x:Value) (c:V),arr[i]?=some x->cs[i]?=some c->RC gid w M μ x c:=by
 cases h with
 |c h=>have:=h.isCell;cases this
 |agg arr cs a b=>exact⟨arr,rfl,a,b⟩
theorem R.inv_tup {v:Value}{cs:List V}(h:R gid w M μ v (.tup cs)):∃arr,v=.tuple arr/\arr.size=cs.length/\∀(i:Nat) (x:Value) (c:V),arr[i]?=some x->cs[i]?=some c->R gid w M μ x c:=by
 cases h with
 |c h=>have:=h.isCell;cases this
 |tup arr cs a b=>exact⟨arr,rfl,a,b⟩
theorem R.inv_rc {v:Value}{a:V}(h:R gid w M μ v a)(b:a.isCell=true):RC gid w M μ v a:=by
 cases h with
 |c h=>exact h
 |agg=>cases b
 |tup=>cases b
theorem q3p {v:Value}{c:V}(h:je v=some c):RP gid w M v c/\c.cellPure=true:=by
 unfold je at h;split at h<;>first
  | (injection h with h;subst h;exact⟨.bool _,rfl⟩)
  | (injection h with h;subst h;exact⟨.int _ _,rfl⟩)
  | (injection h with h;subst h;exact⟨.str _,rfl⟩)
  | (injection h with h;subst h;exact⟨.nil,rfl⟩)
  | (injection h with h;subst h;exact⟨.nilfn,rfl⟩)
  |cases h
theorem Yw : ∀(vs:List Value) {cs:List V} (_:lI vs=some cs),vs.length=cs.length/\(∀(i:Nat) (v:Value) (c:V),vs[i]?=some v->cs[i]?=some c->RC gid w M μ v c)/\∀c ∈ cs,c.cellPure=true
 | [],cs,h=>by simp only[lI]at h;injection h with h;subst h;exact⟨rfl,by simp,by simp⟩
 |v :: vs,cs,h=>by
  simp only[lI,Vz]at h;obtain⟨c,g,f,j,b⟩:=h;injection b with b
  subst b;obtain⟨l,r,p⟩:=Yw vs j;have e:=q3p (gid:=gid) (w:=w) (M:=M) g;refine⟨by simp[l],fun i x y a d=>?_,fun x a=>?_⟩
  ·cases i with
   |zero=>simp at a d;subst a;subst d;exact .p e.1
   |succ i=>exact r i x y (by simpa using a) (by simpa using d)
  ·rcases Wz.1 a with rfl|a
   ·exact e.2
   ·exact p x a
theorem mM {v:Value}{c:V}(h:cV v=some c):R gid w M μ v c/\c.pure=true/\c.isTup=false:=by
 have cell:∀{v:Value},je v=some c->R gid w M μ v c/\c.pure=true/\c.isTup=false:=by
  intro v h;have a:=q3p (gid:=gid) (w:=w) (M:=M) h;have b:=a.1.isCell;refine⟨.c (.p a.1),?_,?_⟩
  ·unfold V.pure;rw[V.cells_cell b];simp[a.2]
  ·cases c<;>first|rfl|cases b
 cases v<;>first
  |exact cell h
  | (rename_i cs
     simp only[cV,VV]at h;obtain⟨d,e,rfl⟩:=h;obtain⟨l,r,p⟩:=Yw (gid:=gid) (w:=w) (M:=M) (μ:=μ) _ e;exact⟨.agg _ _ (by simpa using l) (fun i x y f g=>r i x y (by simpa using f) g),VU.2 p,rfl⟩)
theorem c8 (tb:Tabs T.gid w M){x:Operand}{c:X}(h:cX T x=some c){a:Act}{E:aA}(d:ERel T.gid w M μ a.tmps E):R T.gid w M μ (a.eval x) (am E c):=by
 cases x with
 |tmp t=>simp only[cX]at h;injection h with h;subst h;exact d t
 |const v=>
  simp only[cX,VV]at h;obtain⟨e,b,rfl⟩:=h;exact(mM b).1
 |func f=>
  simp only[cX,VV]at h;obtain⟨g,b,rfl⟩:=h;exact .c (.p (.fn f g b))
 |global g=>
  simp only[cX,VV]at h;obtain⟨cs,b,rfl⟩:=h;exact .c (.p (tb g cs b))
theorem An (tb:Tabs T.gid w M):∀(b:List Operand) {cs:List X} (_:kP T b=some cs) {a:Act} {E:aA} (_:ERel T.gid w M μ a.tmps E),Rs T.gid w M μ (b.map a.eval) (cs.map (am E))
 | [],cs,h,a,E,e=>by simp only[kP]at h;injection h with h;subst h;exact⟨rfl,by simp⟩
 |x :: b,cs,h,a,E,e=>by
  simp only[kP,Vz]at h;obtain⟨c,g,f,i,d⟩:=h;injection d with d
  subst d;exact Rs.cons (c8 tb g e) (An tb b i e)
theorem CA {P:Program}{t:TypeId}{e:Bool}(h:jf P t=some e)(w:World):(isAgg t).run P w=.ok e w:=by
 unfold jf at h;split at h<;>first
  | (injection h with h;subst h;rename_i c;unfold isAgg;rw[Sem.run_bind,run_underlying c w];rfl)
  | (injection h with h;subst h;rename_i d b a c;unfold isAgg;rw[Sem.run_bind,run_underlying c w]
     cases d<;>first|rfl|exact absurd rfl (b _)|exact absurd rfl (a _ _))
  |cases h
theorem uV {P:Program}{t:TypeId}{z:Nat}(h:dS P t=some z):∃i,P.info? t=some i/\i.size=z:=by
 unfold dS at h;rw[VV]at h;exact h
theorem kn {P:Program}{t:TypeId}{z:Nat}(h:dS P t=some z)(w:World):(sizeOf t).run P w=.ok z w:=by
 obtain⟨i,a,b⟩:=uV h;simp[sizeOf,typeInfo,a,b]
theorem qZ {P:Program}{t:TypeId}{v:V}(h:eQ P t=some v):∃i z,P.info? t=some i/\i.zero=some z/\cV z=some v:=by
 unfold eQ at h;rw[Vz]at h;obtain⟨z,a,b⟩:=h;rw[Vz]at a;obtain⟨i,c,d⟩:=a;exact⟨i,z,c,d,b⟩
theorem CP {P:Program}{t:TypeId}{i:TypeInfo}{z:Value}(a:P.info? t=some i)(b:i.zero=some z)(w:World):(zeroValue t).run P w=.ok z w:=by
 simp[zeroValue,typeInfo,a,b]
def mq (gid:Gid)(w:World)(M:Nat->Prop)(μ:bp)(a:Addr)(cs:List V):Prop:=
 ∀(j:Nat) (c:V),cs[j]?=some c->∃x,w.cell? (a.add j)=some x/\RC gid w M μ x c
theorem pM {a:Addr}(h:a.spot=none)(n:Nat):a.add n=⟨a.block,a.off+n,none⟩:=by
 obtain⟨b,o,s⟩:=a;simp only at h;subst h;exact Addr.add_lit b o n
theorem CG {P:Program}{t:TypeId}{k:Bool}{z:Nat}(e:jf P t=some k)(hz:dS P t=some z){a:Addr}{cs:List V}(p:mq gid w M μ a cs){v:V}(h:cA k z cs=some v) :
 ∃q,(loadVar t a).run P w=.ok q w/\R gid w M μ q v:=by
 unfold cA at h;cases k with
 |true=>
  simp only[Wm]at h;split at h
  ·rename_i s;injection h with h
   subst h;have d:∀j,j<z->∃x,w.cell? (a.add j)=some x/\RC gid w M μ x (cs.getD j .nil):=fun j g=>by
    have:=p j cs[j] (k9 (by omega));simpa[List.getD,k9 (show j<cs.length by omega)]using this
   refine⟨.agg ((List.range z).map fun j=>(w.cell? (a.add j)).getD Go.undef).toArray,?_,?_⟩
   ·have r:=run_loadCells (P:=P) w a z (fun j=>(w.cell? (a.add j)).getD Go.undef) (fun j g=>by
     obtain⟨x,b,_⟩:=d j g;simp[b])
    simp[loadVar,Sem.run_bind,CA e,kn hz,r]
   ·refine .agg _ _ (by simp;omega) fun i x c b f=>?_
    simp only[Xg,WE,VV]at b;obtain⟨j,g,b⟩:=b;have l:i<z/\j=i:=by
     rw[Vi]at g;obtain⟨n,o⟩:=g;simp at n o;exact⟨n,o.symm⟩
    obtain⟨hi,rfl⟩:=l;obtain⟨y,u,m⟩:=d j hi;rw[WQ,Vh hi]at f;rw[u]at b;subst b;simpa[List.getD,f]using m
  ·cases h
 |false=>
  simp only[Vv,V8]at h;obtain⟨x,b,m⟩:=p 0 v h;refine⟨x,?_,.c m⟩;rw[Addr.add_zero']at b;simp[loadVar,Sem.run_bind,CA e,b]
theorem ZR {a:Addr}{cs:List V}(h:RP gid w M (.pointer (some a)) (.eptr cs)):mq gid w M μ a cs:=by
 cases h with
 |eptr a cs f d hM i e g=>
  intro j c b;exact⟨f j,by rw[pM d];exact e j c b,.p (g j c b)⟩
theorem Ao (p:Sim gid w M μ H){b i off c a z:Nat}{k:Blk}{e:V}(d:μ b=some (c,a,z))(n:H[b]?=some (some k))(m:k.el[i]?=some e) :
 mq gid w M μ ⟨c,a+(i*z+off),none⟩ (e.cells.drop off):=by
 obtain⟨arr,g,h,r,l⟩:=(p.blk b c a z k d n).lay;intro j cv f;rw[Ws]at f;obtain⟨x,q,o⟩:=(l i e m).2.2 _ cv f;refine⟨x,?_,o⟩;rw[Addr.add_lit,cell_of_row w c _ arr g (0,0) h,<-q]
 congr 1
 omega
theorem R.inv_ptr {v:Value}{b i off:Nat}(h:R gid w M μ v (.ptr b i off)):∃c a z,μ b=some (c,a,z)/\v=.pointer (some ⟨c,a+(i*z+off),none⟩):=by
 cases h with
 |c h=>
  cases h with
  |p h=>cases h
  |ptr b i off c a z n d e=>subst e;exact⟨c,a,z,d,rfl⟩
theorem R.inv_eptr {v:Value}{cs:List V}(h:R gid w M μ v (.eptr cs)):∃a,v=.pointer (some a)/\RP gid w M (.pointer (some a)) (.eptr cs):=by
 cases h with
 |c h=>
  cases h with
  |p h=>cases h with|eptr a cs f b hM d e g=>exact⟨a,rfl,.eptr a cs f b hM d e g⟩
theorem Cx (cs:List V)(off:Nat)(new:List V)(c:off+new.length<=cs.length)(i:Nat) :
 (fZ cs off new)[i]?=if i<off then cs[i]? else if i<off+new.length then new[i-off]? else cs[i]?:=by
 unfold fZ;rw[XG];by_cases a:i<off
 ·rw[Vh a,Vr (by simp;omega),WQ,Vh a]
 ·rw[Vk a,VD (by simp;omega)];have d:(cs.take off).length=off:=by simp;omega
  rw[d];by_cases b:i<off+new.length
  ·rw[Vh b,Vr (by omega)]
  ·rw[Vk b,VD (by omega),Ws]
   congr 1
   omega
theorem CR (cs:List V)(off:Nat)(new:List V)(a:off+new.length<=cs.length):(fZ cs off new).length=cs.length:=by
 simp[fZ];omega
theorem Uq : ∀(new:List Value) (n off:Nat) (cells:Array Value),off+n+new.length<=cells.size ->
 ((new.zipIdx n).foldl (fun(cs:Array Value) (p:Value × Nat)=>cs.setIfInBounds (off+p.2) p.1) cells).size=cells.size /\
 ∀i,((new.zipIdx n).foldl (fun(cs:Array Value) (p:Value × Nat)=>cs.setIfInBounds (off+p.2) p.1) cells)[i]? =
  if i<off+n then cells[i]? else if i<off+n+new.length then new[i-(off+n)]? else cells[i]?
 | [],n,off,cells,_=>by
  refine⟨rfl,fun i=>?_⟩;simp only[List.zipIdx_nil,List.foldl_nil,abf,VF];split
  ·rfl
  ·rfl
 |v :: new,n,off,cells,h=>by
  simp only[Xh]at h;simp only[List.zipIdx_cons,aap];obtain⟨d,f⟩:=Uq new (n+1) off (cells.setIfInBounds (off+n) v) (by simp;omega);refine⟨by rw[d];simp,fun i=>?_⟩;rw[f i,WJ];simp only[Xh];by_cases a:i<off+n
  ·rw[Vh (by omega),Vk (by omega),Vh a]
  ·rw[Vk a];by_cases b:off+n=i
   ·subst b;rw[Vh (by omega),Vh rfl,Vh (by omega),Vh (by omega)];simp
   ·rw[Vk (by omega),Vk b];have e:i-(off+n)=(i-(off+(n+1)))+1:=by omega
    by_cases c:i<off+n+(new.length+1)
    ·rw[Vh (by omega),Vh c,e,List.getElem?_cons_succ]
    ·rw[Vk (by omega),Vk c]
def ji (gid:Gid)(w:World)(M:Nat->Prop)(μ:bp)(arr:Array Value)(cs:List V):Prop:=
 arr.size=cs.length/\∀(i:Nat) (x:Value) (c:V),arr[i]?=some x->cs[i]?=some c->RC gid w M μ x c
theorem O4 {arr new:Array Value}{cs ncs:List V}(h:ji gid w M μ arr cs)(g:ji gid w M μ new ncs){off:Nat}(b:off+ncs.length<=cs.length) :
 ji gid w M μ (new.zipIdx.foldl (fun cs (c,j)=>cs.setIfInBounds (off+j) c) arr) (fZ cs off ncs):=by
 have k:=Uq new.toList 0 off arr (by have:=h.1;have:=g.1;simp;omega);have l:new.zipIdx.foldl (fun cs (c,j)=>cs.setIfInBounds (off+j) c) arr=(new.toList.zipIdx 0).foldl (fun(cs:Array Value) (p:Value × Nat)=>cs.setIfInBounds (off+p.2) p.1) arr:=by
  rw[<-abA,abv]
 rw[l];refine⟨by rw[k.1,CR cs off ncs b];exact h.1,fun i x c d a=>?_⟩;rw[k.2 i]at d;rw[Cx cs off ncs b i]at a;have m:new.toList.length=ncs.length:=by simpa using g.1
 rw[m]at d;simp only[VF]at d;split at d
 ·rename_i e;rw[Vh e]at a;exact h.2 i x c d a
 ·rename_i e;rw[Vk e]at a;split at d
  ·rename_i f;rw[Vh f]at a;exact g.2 _ x c (by simpa using d) a
  ·rename_i f;rw[Vk f]at a;exact h.2 i x c d a
theorem Ef (a:Nat->Option (Nat × Nat)):∀(ps:List (Nat × Value)) (qs:List (Nat × Nat × V)) {arr:Array Value} {cs d:List V} (_:ji gid w M μ arr cs)
 (_:ps.length=qs.length) (_:∀(i:Nat) (p:Nat × Value) (q:Nat × Nat × V),ps[i]?=some p->qs[i]?=some q->a p.1=some (q.1,q.2.1)/\R gid w M μ p.2 q.2.2) (_:gz cs qs=some d),
 ∃b,Instr.fill a arr ps=some b/\ji gid w M μ b d
 | [],[],arr,cs,d,h,_,_,e=>by simp only[gz]at e;injection e with e;subst e;exact⟨arr,rfl,h⟩
 | [],_ :: _,_,_,_,_,k,_,_=>by simp at k
 |_ :: _,[],_,_,_,_,k,_,_=>by simp at k
 | (i,v) :: ps,(off,size,c) :: qs,arr,cs,d,h,k,l,e=>by
  simp only[gz]at e;split at e
  ·rename_i f;obtain⟨A,B,t⟩:=f;obtain⟨n,o⟩:=l 0 (i,v) (off,size,c) rfl rfl;simp only at n o;have g:=o.cells t;have m:=O4 h (new:=v.cells) (ncs:=c.cells) ⟨g.1,g.2⟩ (off:=off) (by omega);obtain⟨b,u,x⟩:=Ef a ps qs m (by simpa using k) (fun j p q y z=>l (j+1) p q (by simpa using y) (by simpa using z)) e;refine⟨b,?_,x⟩;have r:¬(v.cells.size≠size\/off+v.cells.size > arr.size):=by have:=h.1;rw[g.1];omega
   have s:(decide (v.cells.size≠size) ||decide (off+v.cells.size > arr.size))=false:=by
    rw[<-Bool.decide_or];exact abd r
   simp only[Instr.fill,n,s];exact u
  ·cases e
theorem Ek (tb:Tabs T.gid w M)(b:Nat->Option (Nat × Nat)):∀(ps:List (Nat × Operand)) {cs:List (Nat × Nat × X)} (_:pj T b ps=some cs) {a:Act} {E:aA} (_:ERel T.gid w M μ a.tmps E),
 (ps.map fun p=>(p.1,a.eval p.2)).length=(cs.map fun p=>(p.1,p.2.1,am E p.2.2)).length /\
 ∀(i:Nat) (p:Nat × Value) (q:Nat × Nat × V),(ps.map fun p=>(p.1,a.eval p.2))[i]?=some p->(cs.map fun p=>(p.1,p.2.1,am E p.2.2))[i]?=some q->b p.1=some (q.1,q.2.1)/\R T.gid w M μ p.2 q.2.2
 | [],cs,h,a,E,e=>by simp only[pj]at h;injection h with h;subst h;exact⟨rfl,by simp⟩
 | (j,x) :: ps,cs,h,a,E,e=>by
  simp only[pj,Vz]at h;obtain⟨⟨off,size⟩,m,c,n,k,o,d⟩:=h;injection d with d
  subst d;obtain⟨l,r⟩:=Ek tb b ps o e;refine⟨by simpa using l,fun i p q f g=>?_⟩;cases i with
  |zero=>simp at f g;subst f;subst g;exact⟨m,c8 tb n e⟩
  |succ i=>exact r i p q (by simpa using f) (by simpa using g)
end Go.Abs
namespace Go.Abs
variable {T : Tab} {w : World} {M : Nat → Prop} {μ : bp} {H : ab} {gid : Gid} {n0 : Nat}
theorem q51 (g:n0<=H.length)(k:Sim gid w M μ H){v':Value}{v:V}(h:R gid w M μ v' v)(f:v.isTup=false)(t:TypeId) :
 ∃d b,Step gid n0 w M μ H (w.alloc (.cells v'.cells t)) d b (H++[some ⟨v.cells.length,[v],false,true⟩]) /\
  R gid (w.alloc (.cells v'.cells t)) d b (.pointer (some ⟨w.heap.size,0,none⟩)) (.ptr H.length 0 0):=by
 have c:=h.cells f;refine⟨_,_,Step.alloc g k (Same.refl w) v'.cells t ⟨v.cells.length,[v],false,true⟩ rfl (by simp[c.1]) (fun i el hi=>?_) (by simp),?_⟩
 ·cases i with
  |zero=>
   simp at hi;subst hi;refine⟨f,rfl,fun j cv e=>?_⟩;have a:j<v'.cells.size:=by rw[c.1];exact(Vi.1 e).1
   exact⟨v'.cells[j],by simp[a],c.2 j _ cv (by simp[a]) e⟩
  |succ i=>simp at hi
 ·exact .c (.ptr _ _ _ w.heap.size 0 v.cells.length _ (by simp) (by simp))
def qm (gid:Gid)(w:World)(M:Nat->Prop)(μ:bp)(arr:Array Value)(z:Nat)(el:List V):Prop:=
 arr.size=el.length*z/\∀(i:Nat) (e:V),el[i]?=some e->e.isTup=false/\e.cells.length=z/\∀(j:Nat) (c:V),e.cells[j]?=some c->∃x,arr[i*z+j]?=some x/\RC gid w M μ x c
theorem PG {i j z n m:Nat}(h:i*z+j<n*z+m)(b:m<=z):i<n\/i=n:=by
 rcases Vm i (n+1)with a|a
 ·omega
 ·have:(n+1)*z<=i*z:=Vn _ a;rw[VI]at this;omega
theorem Lx {arr new:Array Value}{z:Nat}{el:List V}{c:V}(h:qm gid w M μ arr z el)(g:new.size=z)(t:c.cells.length=z)(G:c.isTup=false)
 (F:∀(i:Nat) (x:Value) (y:V),new[i]?=some x->c.cells[i]?=some y->RC gid w M μ x y) {i:Nat} (hi:i<el.length) :
 qm gid w M μ (new.zipIdx.foldl (fun cs (c,j)=>cs.setIfInBounds (i*z+j) c) arr) z (el.set i c):=by
 have u:i*z+z<=arr.size:=by
  rw[h.1];have:(i+1)*z<=el.length*z:=Vn _ hi;rw[VI]at this;omega
 have o:=Uq new.toList 0 (i*z) arr (by simp[g];omega);have E:new.zipIdx.foldl (fun cs (c,j)=>cs.setIfInBounds (i*z+j) c) arr=(new.toList.zipIdx 0).foldl (fun(cs:Array Value) (p:Value × Nat)=>cs.setIfInBounds (i*z+p.2) p.1) arr:=by
  rw[<-abA,abv]
 rw[E];have v:new.toList.length=z:=by simp[g]
 refine⟨by rw[o.1];simpa using h.1,fun k e d=>?_⟩;by_cases b:i=k
 ·subst b;rw[Wk hi]at d;injection d with d
  subst d;refine⟨G,t,fun j y f=>?_⟩;have a:j<z:=by rw[<-t];exact(Vi.1 f).1
  refine⟨new[j],?_,F j _ y (by simp[g,a]) f⟩;rw[o.2,v,Vk (by omega),Vh (by omega)];simp[g,a]
 ·rw[Wc b]at d;obtain⟨C,s,D⟩:=h.2 k e d;refine⟨C,s,fun j y f=>?_⟩;obtain⟨x,A,q⟩:=D j y f;have a:j<z:=by rw[<-s];exact(Vi.1 f).1
  refine⟨x,?_,q⟩;rw[o.2,v];by_cases r:k*z+j<i*z+0
  ·rw[Vh r];exact A
  ·rw[Vk r];by_cases B:k*z+j<i*z+0+z
   ·rcases PG (n:=i) (m:=z) (by omega) (Vo _)with l|l
    ·have:(k+1)*z<=i*z:=Vn _ l;rw[VI]at this;omega
    ·exact absurd l.symm b
   ·rw[Vk B];exact A
theorem q23 {z:Nat}:∀(ps:List (Nat × Value)) (qs:List (Nat × V)) {arr:Array Value} {el b:List V} (_:qm gid w M μ arr z el)
 (_:ps.length=qs.length) (_:∀(i:Nat) (p:Nat × Value) (q:Nat × V),ps[i]?=some p->qs[i]?=some q->p.1=q.1/\R gid w M μ p.2 q.2/\q.2.pure=true) (_:(∀e ∈ el,e.pure=true)) (_:er z el qs=some b),
 ∃a,Instr.fill (fun i=>some (i*z,z)) arr ps=some a/\qm gid w M μ a z b/\(∀e ∈ b,e.pure=true)/\b.length=el.length
 | [],[],arr,el,b,h,_,_,r,d=>by simp only[er]at d;injection d with d;subst d;exact⟨arr,rfl,h,r,rfl⟩
 | [],_ :: _,_,_,_,_,m,_,_,_=>by simp at m
 |_ :: _,[],_,_,_,_,m,_,_,_=>by simp at m
 | (i,v) :: ps,(I,c) :: qs,arr,el,b,h,m,n,r,d=>by
  simp only[er]at d;split at d
  ·rename_i f;obtain⟨o,t⟩:=f;obtain⟨hi,x,k⟩:=n 0 (i,v) (I,c) rfl rfl;simp only at hi x k;subst hi;have y:c.isTup=false:=by cases c<;>first|rfl| (simp[V.pure,V.cells,V.cellPure]at k)
   have g:=x.cells y;have s:=Lx h (new:=v.cells) (c:=c) (by rw[g.1];exact o) o y g.2 t;obtain⟨a,B,C,D,E⟩:=q23 ps qs s (by simpa using m) (fun j p q F G=>n (j+1) p q (by simpa using F) (by simpa using G)) (fun e l=>by
    rcases Xz l with l|l
    ·exact r e l
    ·rw[l];exact k) d
   refine⟨a,?_,C,D,by rw[E];simp⟩;have u:i*z+z<=arr.size:=by
    rw[h.1];have:(i+1)*z<=el.length*z:=Vn _ t;rw[VI]at this;omega
   have A:(decide (v.cells.size≠z) ||decide (i*z+v.cells.size > arr.size))=false:=by
    rw[<-Bool.decide_or];exact abd (by rw[g.1,o];omega)
   simp only[Instr.fill,A];exact B
  ·cases d
theorem V.soft_tup {v:V}(h:v.isTup=false):v.soft.isTup=false:=by cases v<;>first|rfl|exact h
theorem RC.soft {v:Value}{c:V}(h:RC gid w M μ v c):RC gid w M μ v c.softC:=by
 cases c
 case nil=>
  cases h with
  |p h=>cases h;exact .p .sl0
 all_goals exact h
theorem R.soft {v:Value}{c:V}(h:R gid w M μ v c):R gid w M μ v c.soft:=by
 cases h with
 |c h=>
  have:=h.isCell;cases c<;>first|exact .c h|cases this
 |agg arr cs b e=>
  refine .agg arr _ (by simpa using b) fun i v c hv a=>?_
  rw[WE]at a;cases d:cs[i]? with
  |none=>rw[d]at a;cases a
  |some x=>
   rw[d]at a;injection a with a
   rw[<-a];exact(e i v x hv d).soft
 |tup arr f b e=>exact .tup arr f b e
theorem U1 {b:Value}{c:V}(p:R gid w M μ b c)(m:c.isTup=false){z:Nat}(h:c.cells.length=z)(n:Nat) :
 qm gid w M μ ((Array.range (n*z)).map fun i=>b.cells[i%b.cells.size]!) z (List.replicate n c):=by
 have a:=p.cells m;refine⟨by simp,fun i e hi=>?_⟩;rw[Yp]at hi;split at hi
 ·rename_i k;injection hi with hi
  subst hi;refine⟨m,h,fun j y l=>?_⟩;have f:j<z:=by rw[<-h];exact(Vi.1 l).1
  have d:j<b.cells.size:=by rw[a.1,h];exact f
  have g:i*z+j<n*z:=by
   have:(i+1)*z<=n*z:=Vn _ k;rw[VI]at this;omega
  refine⟨b.cells[j],?_,a.2 j _ y (by simp[d]) l⟩;have o:(i*z+j)%b.cells.size=j:=by rw[a.1,h,XP,Nat.add_mul_mod_self_right];exact VO f
  simp[g,o,d]
 ·cases hi
theorem Se (z:Array Value)(n:Nat):madeCells z n=(Array.range n).map fun i=>z[i%z.size]!:=rfl
theorem Yy (tb:Tabs T.gid w M):∀(ps:List (Nat × Operand)) {cs:List (Nat × X)} (_:td T ps=some cs) {a:Act} {E:aA} (_:ERel T.gid w M μ a.tmps E),
 Rs T.gid w M μ (ps.map fun p=>a.eval p.2) (cs.map fun p=>am E p.2)/\ps.map (·.1)=cs.map (·.1)
 | [],cs,h,a,E,d=>by simp only[td]at h;injection h with h;subst h;exact⟨⟨rfl,by simp⟩,rfl⟩
 | (j,x) :: ps,cs,h,a,E,d=>by
  simp only[td,Vz]at h;obtain⟨c,f,e,g,b⟩:=h;injection b with b
  subst b;obtain⟨l,r⟩:=Yy tb ps g d;exact⟨Rs.cons (c8 tb f d) l,by simp[r]⟩
theorem uY (s:n0<=H.length)(v:Sim gid w M μ H){d:World}(k:Same w d){arr:Array Value}{z:Nat}{el:List V}(h:qm gid w M μ arr z el)(t:∀e ∈ el,e.pure=true)
 (a:Array Value) (e:TypeId) (l cap:Nat) (r:l<=cap) (b:cap*z<=arr.size+a.size) :
 ∃g c,Step gid n0 w M μ H (d.alloc (.cells (arr++a) e)) g c (H++[some ⟨z,el,true,true⟩]) /\
  R gid (d.alloc (.cells (arr++a) e)) g c (.slice (some ⟨w.heap.size,0,none⟩) l cap) (.ref H.length z 0 l):=by
 refine⟨_,_,Step.alloc s v k (arr++a) e ⟨z,el,true,true⟩ rfl (by simp;have:=h.1;omega) (fun i f hi=>?_) (fun _=>t),?_⟩
 ·obtain⟨n,o,p⟩:=h.2 i f hi;refine⟨n,o,fun j y q=>?_⟩;obtain⟨x,m,u⟩:=p j y q;exact⟨x,by rw[aay (Array.getElem?_eq_some_iff.1 m).1];exact m,u⟩
 ·refine .c (.ref _ _ _ _ w.heap.size 0 cap ⟨w.heap.size,0,none⟩ (arr++a) e (0,0) (by simp) rfl rfl r (.inr (by simp)) ?_ ?_)
  ·rw[<-k.heap];exact heap_alloc_new d _
  ·simp;exact b
end Go.Abs
namespace Go.Abs
variable {T : Tab} {w : World} {M : Nat → Prop} {μ : bp} {H : ab} {gid : Gid} {n0 : Nat}
theorem MQ {P:Program}{t:TypeId}(h:qi P t=some .bool):P.underlying t=some .bool:=by
 unfold qi at h;split at h<;>first
  |assumption
  |cases h
  | (exfalso;split at h<;>simp at h)
theorem ON {P:Program}{t:TypeId}(h:qi P t=some .slice):∃e,P.underlying t=some (.slice e):=by
 unfold qi at h;split at h<;>first
  |exact⟨_,by assumption⟩
  |cases h
  | (exfalso;split at h<;>simp at h)
theorem MR {P:Program}{t:TypeId}{n:Nat}(h:qi P t=some (.ints n)):P.eqGuardType P.depth t=false/\∃a,P.underlying t=some (.struct a)/\dc P 8 t=some n:=by
 unfold qi at h;split at h<;>first
  |cases h
  | (rename_i a d
     split at h
     ·cases h
     ·rename_i c;cases b:dc P 8 t
      ·rw[b]at h;cases h
      ·rw[b]at h;injection h with h;injection h with h;subst h
       exact⟨by simpa using c,a,d,rfl⟩)
abbrev K3 :=IntKind × Int × Int
def iA (p:K3):Value:=.int p.1 p.2.1
def iB (p:K3):Value:=.int p.1 p.2.2
def iE (p:K3):Bool:=p.2.1 == p.2.2
theorem q5g : ∀{c ys:List V} {r:Bool},fW c ys=some r->∃l:List K3,c=l.map (fun p=>V.int p.1 p.2.1)/\ys=l.map (fun p=>V.int p.1 p.2.2)/\r=l.all iE
 | [],[],r,h=>by
  simp only[fW]at h;injection h with h;subst h;exact⟨[],rfl,rfl,rfl⟩
 | .int k a :: c,.int f b :: ys,r,h=>by
  simp only[fW]at h;split at h
  ·rename_i e;subst e;cases d:fW c ys
   ·rw[d]at h;cases h
   ·rw[d]at h;obtain⟨l,rfl,rfl,rfl⟩:=q5g d;simp only[WX]at h;injection h with h
    subst h;exact⟨(k,a,b) :: l,rfl,rfl,by rw[aaq];simp[iE]⟩
  ·cases h
theorem YI {P:Program}{t:TypeId}{k:IntKind}(h:P.underlying t=some (.int k)){L:List K3}{g:K3->Value}{o:Nat}{p:K3}(a:L[o]?=some p)(w:World):(part t (L.map g).toArray o).run P w=.ok (g p) w:=by
 simp[part,isAgg,run_underlying h,a]
theorem YJ {P:Program}{t:TypeId}{a:Array Field}(h:P.underlying t=some (.struct a)){n:Nat}(hz:dS P t=some n){L:List K3}{g:K3->Value}{o:Nat}(w:World) :
 (part t (L.map g).toArray o).run P w=.ok (.agg (((L.drop o).take n).map g).toArray) w:=by
 unfold dS at hz;cases hi:P.info? t
 ·rw[hi]at hz;cases hz
 ·rename_i i;rw[hi]at hz;injection hz with hz
  have e:(L.map g).toArray.extract o (o+n)=(((L.drop o).take n).map g).toArray:=by
   simp[List.extract_eq_take_drop]
  simp[part,isAgg,run_underlying h,sizeOf,typeInfo,hi,hz]
theorem YA {P:Program}{d:Nat}{t:TypeId}{a:Array Field}{n:Nat}(e:P.underlying t=some (.struct a))(h:dc P (d+1) t=some n):P.stoodInHeld t=false/\tk (dc P d) a.toList 0=some n/\dS P t=some n:=by
 unfold dc at h;rw[e]at h;simp only at h;split at h
 ·cases h
 ·rename_i c;cases b:tk (dc P d) a.toList 0
  ·rw[b]at h;cases h
  ·rw[b]at h;simp only[V3]at h;split at h
   ·rename_i hz;injection h with h;subst h
    exact⟨by simpa using c,rfl,hz⟩
   ·cases h
theorem O6 {P:Program}{d:Nat}{t:TypeId}{k:IntKind}{n:Nat}(a:P.underlying t=some (.int k))(h:dc P (d+1) t=some n):n=1:=by
 unfold dc at h;rw[a]at h;simp only at h;injection h with h;exact h.symm
theorem Az {P:Program}(w:World):∀(d D:Nat) (t:TypeId) (m:Array Field) (n:Nat),P.underlying t=some (.struct m)->dc P d t=some n->d<=D->∀L:List K3,L.length=n ->
 (Op.equalIn D t (.agg (L.map iA).toArray) (.agg (L.map iB).toArray)).run P w=.ok (L.all iE) w
 |0,D,t,m,n,u,h,G,L,B=>by cases h
 |d+1,D,t,m,n,u,h,G,L,B=>by
  obtain⟨j,rfl⟩:∃j,D=j+1:=⟨D-1,by omega⟩
  obtain⟨J,I,hz⟩:=YA u h;have r:P.fieldsOf t=m:=by unfold Program.fieldsOf;rw[u]
  rw[run_equalIn_struct w j t _ _ (by rw[r];exact u) J,r];have x:∀(q:List Field) (o:Nat),tk (dc P d) q o=some n->o<=n/\(Op.eqFields j (L.map iA).toArray (L.map iB).toArray q).run P w=.ok ((L.drop o).all iE) w:=by
   intro q;induction q with
   |nil=>
    intro o i;simp only[tk]at i;injection i with i
    subst i;exact⟨Vo _,by simp[Op.eqFields,W7 (Nat.le_of_eq B)]⟩
   |cons f q N=>
    intro o i;simp only[tk]at i;split at i
    case isFalse=>cases i
    rename_i C;cases c:dc P d f.type
    ·rw[c]at i;cases i
    rename_i z;rw[c]at i;simp only[V3]at i;obtain⟨Q,K⟩:=N (o+z) i;refine⟨by omega,?_⟩;have one:∃a b,(part f.type (L.map iA).toArray o).run P w=.ok a w/\(part f.type (L.map iB).toArray o).run P w=.ok b w/\(Op.equalIn j f.type a b).run P w=.ok (((L.drop o).take z).all iE) w:=by
     cases d with
     |zero=>cases c
     |succ d=>
      cases g:P.underlying f.type with
      |none=>unfold dc at c;rw[g]at c;cases c
      |some T=>
       cases T<;>try(unfold dc at c;rw[g]at c;cases c;done)
       case int k=>
        have O:=O6 g c;subst O;have⟨p,l⟩:∃p,L[o]?=some p:=⟨_,k9 (by omega)⟩
        obtain⟨v,rfl⟩:∃v,j=v+1:=⟨j-1,by omega⟩
        refine⟨_,_,YI g l w,YI g l w,?_⟩;rw[iA,iB,run_equalIn_int w v f.type p.1 k _ _ g];have e:(L.drop o).take 1=[p]:=by
         rw[Wo (by omega)];rw[k9 (by omega)]at l;injection l with l
         simp[l]
        rw[e];simp[iE]
       case struct fs2=>
        obtain⟨_,_,s⟩:=YA g c;exact⟨_,_,YJ g s w,YJ g s w,Az w (d+1) j f.type fs2 z g c (by omega) _ (by rw[Xt,List.length_drop];omega)⟩
    obtain⟨a,b,y,A,E⟩:=one;have e:(L.drop o).all iE=(((L.drop o).take z).all iE&&(L.drop (o+z)).all iE):=by
     rw[<-List.all_append,<-Wj,Xy]
    rw[<-C.2]at y A;simp only[Op.eqFields,C.1,ne_eq,abG,Wm,Sem.run_bind,y,A,E,Result.andThen_ok,e];cases F:((L.drop o).take z).all iE
    ·simp
    ·simpa[F]using K
  have:=(x m.toList 0 I).2;simpa using this
theorem vu {gid:Gid}{w:World}{M:Nat->Prop}{μ:bp}{b:Value}{l:List K3}{f:K3->Int}(h:R gid w M μ b (.agg (l.map fun p=>V.int p.1 (f p)))):b=.agg (l.map fun p=>Value.int p.1 (f p)).toArray:=by
 cases h with
 |c h=>cases h with
  |p h=>cases h
 |agg arr cs a j=>
  congr 1
  apply Array.ext
  ·simpa using a
  ·intro i d e;have g:i<l.length:=by simpa using e
   have:=j i arr[i] (V.int l[i].1 (f l[i])) (Array.getElem?_eq_getElem d) (by simp[g]);rw[(R.c this).inv_int];simp
theorem Qo {P:Program}{t:TypeId}(h:P.underlying t=some .bool)(a b:Bool)(w:World):(Op.equal t (.bool a) (.bool b)).run P w=.ok (a == b) w:=by
 show(Op.equalIn (9999+1) t _ _).run P w=_;unfold Op.equalIn;simp only[Sem.run_bind,run_underlying h w,Result.andThen_ok];rfl
theorem AQ {P:Program}{t e:TypeId}(h:P.underlying t=some (.slice e))(b:Option Addr)(n m c a:Nat)(w:World):(Op.equal t (.slice none n m) (.slice b c a)).run P w=.ok b.isNone w:=by
 show(Op.equalIn (9999+1) t _ _).run P w=_;unfold Op.equalIn;simp only[Sem.run_bind,run_underlying h w,Result.andThen_ok];rfl
theorem Qp {P:Program}{t e:TypeId}(h:P.underlying t=some (.slice e))(b:Addr)(n m c a:Nat)(w:World):(Op.equal t (.slice (some b) n m) (.slice none c a)).run P w=.ok false w:=by
 show(Op.equalIn (9999+1) t _ _).run P w=_;unfold Op.equalIn;simp only[Sem.run_bind,run_underlying h w,Result.andThen_ok];rfl
theorem q1d {v:Value}{x:V}{b:Bool}(d:R gid w M μ v x)(h:x.isNil=some b):∃a n m,v=.slice a n m/\a.isNone=b:=by
 cases x<;>simp only[V.isNil]at h<;>try(cases h;done)
 case nil=>injection h with h;subst h;exact⟨none,0,0,d.inv_nil,rfl⟩
 case emp=>
  injection h with h;subst h
  obtain⟨a,cap,rfl⟩:=d.inv_emp;exact⟨some a,0,cap,rfl,rfl⟩
 case sl l=>
  cases l with
  |nil=>cases h
  |cons c cs=>
   injection h with h
   subst h;cases d with
   |c d=>cases d with
    |p d=>cases d with
     |sl a len cap s l f=>exact⟨some a,len,cap,rfl,rfl⟩
 case ref=>
  injection h with h
  subst h;cases d with
  |c d=>cases d with
   |p d=>cases d
   |ref b z off len c e cap a=>exact⟨some a,_,cap,rfl,rfl⟩
theorem Qi {P:Program}{t:TypeId}{D:BK}(g:qi P t=some D){op:BinOp}{s u:Value}{x y v:V}(o:R gid w M μ s x)(r:R gid w M μ u y)(h:dP D op x y=some v)(X Y:Operand) :
 ∃B,((do eqGuard op t X Y s u;binOp op t s u):Sem Value).run P w=.ok B w/\R gid w M μ B v:=by
 cases D with
 |num=>
  cases x<;>try(simp only[dP]at h;cases h;done)
  cases y<;>try(simp only[dP]at h;cases h;done)
  rename_i k a k' b;rw[o.inv_int,r.inv_int,eqGuard_at_int];simp only[dP]at h;by_cases L:k=k'
  ·subst L;cases op;all_goals simp only[Wm,tu,aR,cH,WX]at h
   all_goals first
    | (injection h with h;subst h;exact⟨_,by simp[binOp,Op.intArith,Op.intCmp,Op.intBits],.c (.p (.int _ _))⟩)
    | (injection h with h;subst h;refine⟨.bool _,?_,.c (.p (.bool _))⟩;simp[binOp,Op.intCmp,bne];done)
    | (injection h with h;subst h;refine⟨.bool _,?_,.c (.p (.bool _))⟩;simp[binOp,Op.intCmp,bne];rfl)
    | (split at h
       ·cases h
       ·rename_i c;injection h with h;subst h
        refine⟨_,?_,.c (.p (.int _ _))⟩;simp[binOp,Op.intDiv,Op.shift,c];done)
    | (split at h
       ·cases h
       ·rename_i c;injection h with h;subst h
        refine⟨_,?_,.c (.p (.int _ _))⟩;simp[binOp,Op.shift,c];rfl)
  ·cases op;all_goals simp only[Vk L,cH]at h
   all_goals first
    | (cases h;done)
    | (split at h
       ·cases h
       ·rename_i c;injection h with h;subst h
        refine⟨_,?_,.c (.p (.int _ _))⟩;simp[binOp,Op.shift,c];done)
    | (split at h
       ·cases h
       ·rename_i c;injection h with h;subst h
        refine⟨_,?_,.c (.p (.int _ _))⟩;simp[binOp,Op.shift,c];rfl)
 |bool=>
  cases x<;>try(simp only[dP]at h;cases h;done)
  cases y<;>try(simp only[dP]at h;cases h;done)
  rename_i a b;rw[o.inv_bool,r.inv_bool,eqGuard_at_bool];have I:=Qo (MQ g) a b w;cases op;all_goals simp only[dP]at h
  all_goals first
   | (cases h;done)
   | (injection h with h;subst h;refine⟨_,?_,.c (.p (.bool _))⟩;simp only[binOp,pure_bind,Sem.run_bind,I,Result.andThen_ok];rfl)
 |str=>
  cases x<;>try(simp only[dP]at h;cases h;done)
  cases y<;>try(simp only[dP]at h;cases h;done)
  rename_i a b;rw[o.inv_str,r.inv_str,eqGuard_at_string];cases op;all_goals simp only[dP]at h
  all_goals first
   | (cases h;done)
   | (injection h with h;subst h;exact⟨_,rfl,.c (.p (.bool _))⟩)
 |ints n=>
  cases x<;>try(simp only[dP]at h;cases h;done)
  cases y<;>try(simp only[dP]at h;cases h;done)
  rename_i xs ys;simp only[dP]at h;split at h
  case isFalse=>cases h
  rename_i U;simp only[Vz]at h;obtain⟨b,c,h⟩:=h;obtain⟨l,rfl,rfl,rfl⟩:=q5g c;obtain⟨S,O,Z,Q⟩:=MR g;have ex:=vu (f:=fun p=>p.2.1) o;have N:=vu (f:=fun p=>p.2.2) r;subst ex N;have q:=Az w 8 10000 t O n Z Q (by omega) l (by simpa using U);rw[show(fun p:K3=>Value.int p.1 p.2.1)=iA from rfl,show(fun p:K3=>Value.int p.1 p.2.2)=iB from rfl];cases op;all_goals simp only at h
  all_goals first
   | (cases h;done)
   | (injection h with h;subst h
      refine⟨_,?_,.c (.p (.bool _))⟩;rw[Sem.run_bind,run_eqGuard_agg w _ t X Y _ _ S];simp only[Result.andThen_ok];first|rw[run_eql_struct,q] |rw[run_neq_struct,q]
      rfl)
 |slice=>
  obtain⟨e,G⟩:=ON g;have d:∀{b:Bool} {p q:Value} (_:p=s) (_:q=u),(∃a n m,p=.slice a n m)->(Op.equal t p q).run P w=.ok b w ->
   (match (generalizing:=false) op with| .eql=>some (V.bool b)| .neq=>some (V.bool !b)|_=>none)=some v->∃B,((do eqGuard op t X Y s u;binOp op t s u):Sem Value).run P w=.ok B w/\R gid w M μ B v:=by
   intro b p q W I ⟨a,n,m,hpe⟩ hr hv;subst W;subst I;subst hpe;rw[eqGuard_at_slice];cases op;all_goals simp only[]at hv
   all_goals first
    | (cases hv;done)
    | (injection hv with hv;subst hv;refine⟨_,?_,.c (.p (.bool _))⟩;simp only[binOp,pure_bind,Sem.run_bind,hr,Result.andThen_ok];rfl)
  by_cases i:x=.nil
  ·subst i;simp only[dP,Vz]at h;obtain⟨b,E,F⟩:=h;obtain⟨a,n,m,C,j⟩:=q1d r E;have z:=o.inv_nil;refine d (b:=b) rfl rfl ⟨_,_,_,z⟩ ?_ F;rw[z,C,AQ G,j]
  ·by_cases A:y=.nil
   ·subst A;have K:x.isNil.bind (fun b=>match (generalizing:=false) op with| .eql=>some (V.bool b)| .neq=>some (V.bool !b)|_=>none)=some v:=by
     cases x<;>first|exact h|exact absurd rfl i
    rw[Vz]at K;obtain⟨b,E,F⟩:=K;obtain⟨a,n,m,C,j⟩:=q1d o E;have J:=r.inv_nil;refine d (b:=b) rfl rfl ⟨_,_,_,C⟩ ?_ F;rw[C,J];cases a with
    |none=>rw[AQ G];simp at j;rw[j];rfl
    |some a=>rw[Qp G];simp at j;rw[j]
   ·exfalso;cases x<;>cases y<;>first|exact i rfl|exact A rfl| (simp only[dP]at h;cases h;done)
theorem P0 {P:Program}{op:UnOp}{c:Value}{x v:V}(a:R gid w M μ c x)(h:uy op x=some v):∃b,(Op.unary op c).run P w=.ok b w/\R gid w M μ b v:=by
 cases op<;>cases x<;>simp only[uy]at h<;>try(cases h;done)
 ·injection h with h;subst h
  rw[a.inv_int];exact⟨_,rfl,.c (.p (.int _ _))⟩
 ·rw[a.inv_int];simp only[aR,WX]at h;injection h with h;subst h
  exact⟨_,rfl,.c (.p (.int _ _))⟩
 ·injection h with h;subst h
  rw[a.inv_bool];exact⟨_,rfl,.c (.p (.bool _))⟩
end Go.Abs
namespace Go.Abs
variable {T : Tab} {w : World} {M : Nat → Prop} {μ : bp} {H : ab} {gid : Gid} {n0 : Nat}
theorem mR {a:Value}{x:V}(b:R gid w M μ a x){n:Nat}(h:ck x=some n):∃(k:IntKind) (i:Int),a=.int k i/\0<=i/\i.toNat=n/\i=(n:Int):=by
 cases x<;>simp only[ck]at h<;>try(cases h;done)
 split at h
 ·rename_i k i hi;injection h with h
  subst h;exact⟨k,i,b.inv_int,hi,rfl,by omega⟩
 ·cases h
def kB (d:Nat)(o:Option Value)(n:Nat):Prop:=
 match o with
 |none=>n=d
 |some v=>∃(k:IntKind) (i:Int),v=.int k i/\0<=i/\i.toNat=n/\i=(n:Int)
theorem mS (tb:Tabs T.gid w M){x:Option Operand}{c:Option X}(b:j4 T x=some c){a:Act}{E:aA}(f:ERel T.gid w M μ a.tmps E){d n:Nat}(h:d9 E d c=some n):kB d (x.map a.eval) n:=by
 cases x with
 |none=>simp only[j4]at b;injection b with b;subst b;simp only[d9]at h;injection h with h;exact h.symm
 |some x=>
  simp only[j4,VV]at b;obtain⟨g,e,rfl⟩:=b;exact mR (c8 tb e f) h
theorem q0p {P:Program}{len cap l h m:Nat}{lo hi mx:Option Value}(a:kB 0 lo l)(o:kB len hi h)(q:kB cap mx m)(x:l<=h)(y:h<=m)(z:m<=cap)
 (r:mx.isSome=true->hi.isSome=true):(Instr.sliceBounds true len cap lo hi mx).run P w=.ok (l,h,m) w:=by
 cases mx with
 |none=>
  simp only[kB]at q;subst q;cases hi with
  |none=>
   simp only[kB]at o;subst o;cases lo with
   |none=>simp only[kB]at a;subst a;simp[Instr.sliceBounds]
   |some lo=>
    obtain⟨k,i,rfl,b,d,s⟩:=a;simp[Instr.sliceBounds,run_sliceBound w k i h .sliceB b (by omega),d]
  |some hi=>
   obtain⟨n,j,rfl,b,d,s⟩:=o;cases lo with
   |none=>simp only[kB]at a;subst a;simp[Instr.sliceBounds,run_sliceBound w n j m .sliceAcap b (by omega),d]
   |some lo=>
    obtain⟨k,i,rfl,c,e,p⟩:=a;simp[Instr.sliceBounds,run_sliceBound w n j m .sliceAcap b (by omega),d,run_sliceBound w k i h .sliceB c (by omega),e]
 |some mx=>
  obtain⟨u,t,rfl,f,g,v⟩:=q;cases hi with
  |none=>simp at r
  |some hi=>
   obtain⟨n,j,rfl,b,d,s⟩:=o;cases lo with
   |none=>simp only[kB]at a;subst a;simp[Instr.sliceBounds,run_sliceBound w u t cap .slice3Acap f (by omega),g,run_sliceBound w n j m .slice3B b (by omega),d]
   |some lo=>
    obtain⟨k,i,rfl,c,e,p⟩:=a;simp[Instr.sliceBounds,run_sliceBound w u t cap .slice3Acap f (by omega),g,run_sliceBound w n j m .slice3B b (by omega),d,run_sliceBound w k i h .slice3C c (by omega),e]
theorem CH {P:Program}{t e:TypeId}{z len cap l h m:Nat}(i:P.underlying t=some (.slice e))(hz:dS P e=some z){a:Option Addr}{lo hi mx:Option Value}(k:kB 0 lo l)(j:kB len hi h)
 (n:kB cap mx m) (c:l<=h) (d:h<=m) (f:m<=cap) (b:mx.isSome=true->hi.isSome=true) :
 (Instr.sliceAt t (.slice a len cap) lo hi mx).run P w=.ok (.slice (if m=l then a else a.map (·.add (l*z))) (h-l) (m-l)) w:=by
 have g:=q0p (P:=P) (w:=w) k j n c d f b;simp[Instr.sliceAt,Instr.slice,run_underlying i,g,kn hz]
theorem YM (l:List V)(lo hi i:Nat):((l.take hi).drop lo)[i]?=if lo+i<hi then l[lo+i]? else none:=by
 rw[Ws,WQ]
theorem RP.slice {a:Option Addr}{len cap:Nat}{l:List V}(t:RP gid w M (.slice a len cap) (.sl l)){lo hi m z:Nat}(I:lo<=hi)(J:hi<=m)(K:m<=cap)(D:hi<=l.length)
 (hz:lo=0\/fF z ((l.take hi).drop lo)=true):RP gid w M (.slice (if m=lo then a else a.map (·.add (lo*z))) (hi-lo) (m-lo)) (.sl ((l.take hi).drop lo)):=by
 have d:((l.take hi).drop lo).length=hi-lo:=by simp;omega
 cases t with
 |sl0=>
  have e:hi=0:=by simpa using D
  have A:m=0:=by omega
  have B:lo=0:=by omega
  subst e;subst A;subst B;exact .sl0
 |sl a len cap s l f L o hM p u v E t=>
  by_cases n:m=lo
  ·rw[Vh n];have e:hi=lo:=by omega
   have y:(l.take hi).drop lo=[]:=by apply VK;omega
   rw[y];exact .sl a _ _ s [] f (by simp;omega) (by simp) (by simp) (by simp) (by omega) (by simp) (by simp) (by simp)
  ·rw[Vk n];by_cases g:(l.take hi).drop lo=[]
   ·rw[WX];rw[g]at d ⊢;exact .sl _ _ _ s [] f (by simp at d ⊢;omega) (by simp) (by simp) (by simp) (by omega) (by simp) (by simp) (by simp)
   have k:l≠[]:=fun C=>by subst C;simp at g
   replace o:=o k;replace hM:=hM k;replace p:=p k
   rw[WX,pM o];have off:∀(i:Nat) (e:V),((l.take hi).drop lo)[i]?=some e->lo*z=lo*s:=by
    intro i e b;rcases hz with rfl|hz
    ·simp
    ·cases r:(l.take hi).drop lo with
     |nil=>rw[r]at b;simp at b
     |cons x N=>
      rw[r]at hz;simp only[fF,VT]at hz;have G:l[lo]?=some x:=by
       have:=YM l lo hi 0;rw[r]at this;simp only[VF,Yq]at this;split at this
       ·exact this.symm
       ·cases this
      rw[<-hz,v lo x G]
   have get:∀(i:Nat) (e:V),((l.take hi).drop lo)[i]?=some e->l[lo+i]?=some e:=by
    intro i e h;rw[YM]at h;split at h
    ·exact h
    ·cases h
   refine .sl _ _ _ s _ (fun i j=>f (lo+i) j) d.symm (fun _=>rfl) (fun _=>hM) (fun _=>p) (by omega) (fun i e b=>v _ e (get i e b)) (fun i e j c b q=>?_) (fun i e j c b q=>t _ e j c (get i e b) q);have:=E _ e j c (get i e b) q;rw[<-this]
   congr 1
   have F:=off i e b;simp only[Addr.mk.injEq,abW,and_true];rw[F,VI];omega
theorem R.inv_sl {v:Value}{l:List V}(h:R gid w M μ v (.sl l)):∃a len cap,v=.slice a len cap/\len=l.length/\len<=cap/\RP gid w M (.slice a len cap) (.sl l):=by
 cases h with
 |c h=>
  cases h with
  |p h=>
   cases h with
   |sl0=>exact⟨none,0,0,rfl,rfl,Vo _,.sl0⟩
   |sl a len cap s l f b e g i d j k m=>exact⟨some a,len,cap,rfl,b,d,.sl a len cap s l f b e g i d j k m⟩
theorem R.inv_ref {v:Value}{b z off len:Nat}(h:R gid w M μ v (.ref b z off len)):∃(a:Addr) (cap c d:Nat) (arr:Array Value) (e:TypeId) (fr:Nat × Nat),v=.slice (some a) len cap/\μ b=some (c,d,z)/\a.block=c/\a.spot=none/\len<=cap /\
 (cap=0\/a.off=d+off*z)/\w.heap[c]?=some (.cells arr e fr)/\a.off+cap*z<=arr.size:=by
 cases h with
 |c h=>
  cases h with
  |p h=>cases h
  |ref b z off len c d cap a arr e fr f g i j k l m=>exact⟨a,cap,c,d,arr,e,fr,rfl,f,g,i,j,k,l,m⟩
theorem RP.eptr_drop {a:Addr}{cs:List V}(h:RP gid w M (.pointer (some a)) (.eptr cs))(n:Nat):RP gid w M (.pointer (some (a.add n))) (.eptr (cs.drop n)):=by
 cases h with
 |eptr a cs f d hM e g i=>
  rw[pM d];refine .eptr _ _ (fun j=>f (n+j)) rfl hM e (fun j c b=>?_) (fun j c b=>i _ c (by rw[Ws]at b;exact b));rw[Ws]at b;rw[<-g _ c b]
  congr 1
  simp only[Addr.mk.injEq,abW,and_true];omega
theorem Zf {P:Program}{f:Field}{z:Nat}(hz:dS P f.type=some z)(b:z≠0)(a:Addr):(fieldPlace a f).run P w=.ok (a.add f.offset) w:=by
 simp[fieldPlace,kn hz,b]
theorem Ac {P:Program}{t:TypeId}{e:Bool}{z off:Nat}(b:jf P t=some e)(hz:dS P t=some z){arr:Array Value}{cs:List V}(j:arr.size=cs.length)
 (k:∀(i:Nat) (x:Value) (c:V),arr[i]?=some x->cs[i]?=some c->RC gid w M μ x c) {v:V} (h:cA e z (cs.drop off)=some v):∃l,(part t arr off).run P w=.ok l w/\R gid w M μ l v:=by
 unfold cA at h;cases e with
 |true=>
  simp only[Wm]at h;split at h
  ·rename_i f;injection h with h
   subst h;refine⟨.agg (arr.extract off (off+z)),by simp[part,CA b,kn hz],.agg _ _ (by simp at f ⊢;omega) fun i x c a d=>?_⟩;rw[WQ]at d;split at d
   ·rw[Ws]at d;rw[Array.getElem?_extract]at a;split at a
    ·exact k _ x c a d
    ·cases a
   ·cases d
  ·cases h
 |false=>
  simp only[Vv,V8]at h;rw[Ws,VF]at h;have g:off<arr.size:=by rw[j];exact(Vi.1 h).1
  have a:arr[off]?=some arr[off]:=by simp[g]
  exact⟨arr[off],by simp[part,CA b,a],.c (k off _ v a h)⟩
end Go.Abs
namespace Go.Abs
variable {T : Tab} {w : World} {M : Nat → Prop} {μ : bp} {H : ab} {gid : Gid} {n0 : Nat}
def jN (arr:Array Value)(o:Nat)(new:List Value):Array Value:=(arr.toList.take o++new++arr.toList.drop (o+new.length)).toArray
theorem CF (arr:Array Value)(o:Nat)(new:List Value)(h:o+new.length<=arr.size):(jN arr o new).size=arr.size:=by simp[jN];omega
theorem nz (arr:Array Value)(o:Nat)(new:List Value)(h:o+new.length<=arr.size)(i:Nat) :
 (jN arr o new)[i]?=if i<o then arr[i]? else if i<o+new.length then new[i-o]? else arr[i]?:=by
 unfold jN;rw[Xg,XG];by_cases a:i<o
 ·rw[Vh a,Vr (by simp;omega),WQ,Vh a];simp
 ·rw[Vk a,VD (by simp;omega)];have c:(arr.toList.take o).length=o:=by simp;omega
  rw[c];by_cases b:i<o+new.length
  ·rw[Vh b,Vr (by omega)]
  ·rw[Vk b,VD (by omega),Ws];simp only[abk]
   congr 1
   omega
theorem q94 {e:V}{cs:List V}(h:e.isTup=false)(g:cs.length=e.cells.length)(b:∀c ∈ cs,c.isCell=true):(e.withCells cs).cells=cs/\(e.withCells cs).isTup=false:=by
 have cell:∀{e:V},e.cells=[e]->(e.withCells cs)=cs.headD .nil->cs.length=1->(e.withCells cs).cells=cs/\(e.withCells cs).isTup=false:=by
  intro e i d f
  match cs,f,b with
  | [c],_,b=>
   have a:=b c (by simp);rw[d];refine⟨V.cells_cell a,?_⟩;simp only[List.headD_cons];cases c<;>first|rfl|cases a
 cases e<;>first
  | (cases h;done)
  |exact⟨rfl,rfl⟩
  |exact cell rfl rfl g
theorem P8 {P:Program}{t:TypeId}{z:Nat}(hz:dS P t=some z)(hs:Sim gid w M μ H){b i off:Nat}{k:Blk}{e v:V}{p' v':Value}(hp:R gid w M μ p' (.ptr b i off))(hv:R gid w M μ v' v)
 (ht:v.isTup=false) (hk:H[b]?=some (some k)) (S:k.el[i]?=some e) (hw:k.wr=true) (Z:v.cells.length=z) (hoff:off+z<=e.cells.length) (C:k.arr=true\/b<n0->v.pure=true) :
 ∃w',(Instr.storeAt t p' v').run P w=.ok () w'/\Step gid n0 w M μ H w' M μ (H.set b (some { k with el:=k.el.set i (e.withCells (fZ e.cells off v.cells)) })):=by
 obtain⟨c,f,o,Q,rfl⟩:=hp.inv_ptr;have r:=hs.blk b c f o k Q hk;obtain⟨arr,et,h1,h2,h3⟩:=r.lay;obtain⟨W,Y,A⟩:=h3 i e S;have h:=hv.cells ht;have hi:i<k.el.length:=(Vi.1 S).1;have N:(i+1)*o<=k.el.length*o:=Vn _ hi;rw[VI]at N;have g:f+(i*o+off)+v'.cells.toList.length<=arr.size:=by simp[h.1];omega
 have L:∀x ∈ v'.cells.toList,x.oneCell'=true:=by
  intro x a;obtain⟨j,d⟩:=Wa a;have m:j<v.cells.length:=by
   have:=(Vi.1 d).1;simp at this;omega
  exact(h.2 j x v.cells[j] (by simpa using d) (k9 m)).oneCell
 have O:=run_storeCells_at P c (f+(i*o+off)) et v'.cells.toList 0 arr w h1 (by simpa using g) L;simp only[VF]at O;refine⟨_,?_,Step.write hs Q hk hw arr (jN arr (f+(i*o+off)) v'.cells.toList) et h1 (CF _ _ _ g) (k.el.set i (e.withCells (fZ e.cells off v.cells))) (by simpa using h2) ?_ ?_ ?_⟩
 ·simp only[Instr.storeAt,Instr.sureAddr,pure_bind,storeVar,Sem.run_bind,kn hz,Result.andThen_ok];rw[Vk (by simp[h.1,Z])];exact O
 all_goals
  have D:∀c ∈ fZ e.cells off v.cells,c.isCell=true:=by
   intro x a;obtain⟨j,d⟩:=Wa a;rw[Cx _ _ _ (by omega)]at d;split at d
   ·obtain⟨y,_,B⟩:=A j x d;exact B.isCell
   ·split at d
    ·have m:j-off<v'.cells.size:=by rw[h.1];exact(Vi.1 d).1
     exact(h.2 _ v'.cells[j-off] x (by simp[m]) d).isCell
    ·obtain⟨y,_,B⟩:=A j x d;exact B.isCell
  have u:=q94 (cs:=fZ e.cells off v.cells) W (CR _ _ _ (by omega)) D
 ·intro U el l;by_cases F:i=U
  ·subst F;rw[Wk hi]at l;injection l with l
   subst l;refine⟨u.2,by rw[u.1,CR _ _ _ (by omega)];exact Y,fun j cv d=>?_⟩;rw[u.1,Cx _ _ _ (by omega)]at d;have K:v'.cells.toList.length=v.cells.length:=by simp[h.1]
   split at d
   ·rename_i c1;obtain⟨x,a,B⟩:=A j cv d;exact⟨x,by rw[nz _ _ _ g,Vh (by omega)];exact a,B⟩
   ·split at d
    ·rename_i c1 c2;have m:j-off<v'.cells.size:=by rw[h.1];exact(Vi.1 d).1
     refine⟨v'.cells[j-off],?_,h.2 _ _ cv (by simp[m]) d⟩;rw[nz _ _ _ g,Vk (by omega),Vh (by omega),show f+(i*o+j)-(f+(i*o+off))=j-off by omega];simp[m]
    ·rename_i c1 c2;obtain⟨x,a,B⟩:=A j cv d;exact⟨x,by rw[nz _ _ _ g,Vk (by omega),Vk (by omega)];exact a,B⟩
  ·rw[Wc F]at l;obtain⟨g1,g2,g3⟩:=h3 U el l;refine⟨g1,g2,fun j cv d=>?_⟩;obtain⟨x,a,B⟩:=g3 j cv d;refine⟨x,?_,B⟩;have hjz:j<o:=by rw[<-g2];exact(Vi.1 d).1
   have K:v'.cells.toList.length=v.cells.length:=by simp[h.1]
   rw[nz _ _ _ g];rcases Nat.lt_or_gt_of_ne F with p|p
   ·have:(i+1)*o<=U*o:=Vn _ p;rw[VI]at this;rw[Vk (by omega),Vk (by omega)];exact a
   ·have:(U+1)*o<=i*o:=Vn _ p;rw[VI]at this;rw[Vh (by omega)];exact a
 ·intro q el E;have G:=C (.inl q);rcases Xz E with p|p
  ·exact r.pur q el p
  ·subst p;unfold V.pure;rw[u.1,VU];have J:=r.pur q e (VX S);intro x a;unfold fZ at a;simp only[V6]at a;rcases a with (a|a)|a
   ·exact VU.1 J x (W4 a)
   ·exact VU.1 G x a
   ·exact VU.1 J x (Xk a)
 ·intro n hn hbn s el E x a;have G:=C (.inr (by omega));rcases Xz E with p|p
  ·exact s el p x a
  ·subst p;rw[u.1]at a;have I:=VX S;unfold fZ at a;simp only[V6]at a;rcases a with (a|a)|a
   ·exact s e I x (W4 a)
   ·exact .cell (VU.1 G x a)
   ·exact s e I x (Xk a)
end Go.Abs
namespace Go.Abs
variable {T : Tab} {w : World} {M : Nat → Prop} {μ : bp} {H : ab} {gid : Gid} {n0 : Nat}
theorem RP.cellPure {v:Value}{c:V}(h:RP gid w M v c):c.cellPure=true:=by cases h<;>rfl
def Shown (gid:Gid)(w:World)(M:Nat->Prop)(μ:bp)(a:Option Addr)(z:Nat)(ys:List V):Prop:=
 (∀(i:Nat) (e:V),ys[i]?=some e->e.isTup=false/\e.cells.length=z/\e.pure=true) /\
 (ys≠[]->∃ad,a=some ad/\∀(i:Nat) (e:V) (j:Nat) (c:V),ys[i]?=some e->e.cells[j]?=some c->∃x,w.cell? (ad.add (i*z+j))=some x/\RC gid w M μ x c)
theorem q29 (Y:Sim gid w M μ H){J:Value}{y:V}(v:R gid w M μ J y){ys:List V}(h:elems H y=some ys){z:Nat}(hz:fF z ys=true) :
 ∃a cap,J=.slice a ys.length cap/\Shown gid w M μ a z ys:=by
 cases y<;>simp only[elems]at h<;>try(cases h;done)
 case nil=>
  injection h with h;subst h
  exact⟨none,0,v.inv_nil,by simp,by simp⟩
 case emp=>
  injection h with h;subst h
  obtain⟨a,cap,rfl⟩:=v.inv_emp;exact⟨some a,cap,rfl,by simp,by simp⟩
 case sl l=>
  injection h with h;subst h
  obtain⟨a,len,cap,rfl,d,r,W⟩:=v.inv_sl;refine⟨a,cap,by rw[d],?_⟩;cases W with
  |sl0=>exact⟨by simp,by simp⟩
  |sl a len cap s l f hl P hM hb Q t A n=>
   have o:∀(i:Nat) (e:V),l[i]?=some e->s=z:=by
    intro i e hi;cases l with
    |nil=>simp at hi
    |cons x xs=>
     simp only[fF,VT]at hz;rw[<-hz,t 0 x rfl]
   refine⟨fun i e hi=>?_,fun _=>⟨a,rfl,fun i e j c hi p=>⟨f i j,?_,.p (n i e j c hi p)⟩⟩⟩
   ·refine⟨?_,by rw[t i e hi];exact o i e hi,?_⟩
    ·cases e<;>first|rfl| (have:=(n i _ 0 _ hi rfl).isCell;cases this)
    ·unfold V.pure;rw[VU];intro x E;obtain⟨j,p⟩:=Wa E;exact(n i e j x hi p).cellPure
   ·rw[pM (P fun K=>by subst K;simp at hi),<-o i e hi];exact A i e j c hi p
 case ref b z' off len=>
  split at h
  ·rename_i k S;split at h
   ·rename_i g;obtain⟨q,U,G⟩:=g;injection h with h
    obtain⟨a,cap,c,F,arr,e,rfl,A,D,r,hμ,I,Z,o,m⟩:=ua Y S (v.inv_rc rfl);subst h;have d:((k.el.drop off).take len).length=len:=by simp;omega
    have u:∀(i:Nat) (el:V),((k.el.drop off).take len)[i]?=some el->z'=z:=by
     intro i el hi;cases B:(k.el.drop off).take len with
     |nil=>rw[B]at hi;simp at hi
     |cons x xs=>
      rw[B]at hz;simp only[fF,VT]at hz;have:=(m 0 x (by rw[B];rfl)).2.1;rw[<-this,hz]
    refine⟨some a,cap,by rw[d],fun i el hi=>?_,fun _=>⟨a,rfl,fun i el j cv hi p=>?_⟩⟩
    ·obtain⟨L,N,O,_⟩:=m i el hi;exact⟨L,by rw[N];exact u i el hi,O q⟩
    ·obtain⟨x,E,C⟩:=(m i el hi).2.2.2 j cv p;refine⟨x,?_,C⟩;rw[pM D,A,cell_of_row w c _ arr e (0,0) Z,<-u i el hi,E]
   ·cases h
  ·cases h
theorem Shown.lay {a:Addr}{z:Nat}{ys:List V}(hz:0<z)(h:Shown gid w M μ (some a) z ys) :
 ∃b:List Value,b.length=ys.length*z/\(∀(j:Nat) (u:Value),b[j]?=some u->w.cell? (a.add j)=some u)/\(∀u ∈ b,u.oneCell'=true) /\
  ∀(i:Nat) (e:V) (j:Nat) (c:V),ys[i]?=some e->e.cells[j]?=some c->∃x,b[i*z+j]?=some x/\RC gid w M μ x c:=by
 have cell:∀q,q<ys.length*z->∃x c,w.cell? (a.add q)=some x/\RC gid w M μ x c:=by
  intro q d;have hi:q/z<ys.length:=by rw[VW hz];exact d
  have k:q%z<z:=WG _ hz;obtain⟨t,o,v⟩:=h.1 _ _ (k9 hi);obtain⟨s,g,p⟩:=h.2 (by intro e;rw[e]at hi;simp at hi);injection g with g
  subst g;obtain⟨x,f,n⟩:=p _ _ _ _ (k9 hi) (k9 (by rw[o];exact k));refine⟨x,_,?_,n⟩;rw[WY]at f;exact f
 refine⟨(List.range (ys.length*z)).map fun q=>(w.cell? (a.add q)).getD Go.undef,by simp,fun j u k=>?_,fun u A=>?_,fun i e j c hi k=>?_⟩
 ·simp only[WE,VV]at k;obtain⟨q,d,rfl⟩:=k;rw[Vi]at d;obtain⟨l,m⟩:=d;simp at l m;subst m;obtain⟨x,_,f,_⟩:=cell j l;rw[f];rfl
 ·obtain⟨q,d,rfl⟩:=List.mem_map.1 A;obtain⟨x,c,f,n⟩:=cell q (by simpa using d);rw[f];exact n.oneCell
 ·obtain⟨t,o,v⟩:=h.1 i e hi;obtain⟨s,g,p⟩:=h.2 (by intro e;rw[e]at hi;simp at hi);injection g with g
  subst g;obtain⟨x,f,n⟩:=p i e j c hi k;have r:i<ys.length:=(Vi.1 hi).1;have y:j<z:=by rw[<-o];exact(Vi.1 k).1
  have d:i*z+j<ys.length*z:=by
   have:(i+1)*z<=ys.length*z:=Vn _ r;rw[VI]at this;omega
  refine⟨x,?_,n⟩;simp[d,f]
theorem Shown.src {P:Program}{size:Nat}{f g:TypeId}(d:P.underlying f=some (.slice g)){a:Option Addr}{ys:List V}{cap:Nat}(hz:0<size)(h:Shown gid w M μ a size ys) :
 ∃b:List Value,Src P size f (.slice a ys.length cap) ys.length b w /\
  ∀(i:Nat) (e:V) (j:Nat) (c:V),ys[i]?=some e->e.cells[j]?=some c->∃x,b[i*size+j]?=some x/\RC gid w M μ x c:=by
 cases a with
 |none=>
  cases ys with
  |nil=>exact⟨[],by simpa using Src.ofNil (P:=P) w d cap,by simp⟩
  |cons y ys=>obtain⟨_,o,_⟩:=h.2 (by simp);cases o
 |some a=>
  obtain⟨b,k,l,m,n⟩:=h.lay hz;exact⟨b,Src.ofSlice w d a ys.length cap b k l m,n⟩
theorem Y0 {P:Program}(t o r e:TypeId)(i:TypeInfo)(q:P.underlying t=some (.slice e))(hi:P.info? e=some i)(g off a c:Nat)(d:Array Value)(l:TypeId)(p:w.heap[g]?=some (.cells d l (0,0)))
 (x:Value) (n:Nat) (b:List Value) (k:Src P i.size o x n b w) (f:a+n<=c) (h:off+a*i.size+b.length<=d.size) :
 (Builtin.append_ #[t,o] r #[.slice (some ⟨g,off,none⟩) a c,x]).run P w=.ok (.slice (some ⟨g,off,none⟩) (a+n) c) (w.setRow g (jN d (off+a*i.size) b)):=by
 have j:=run_storeCells_at P g (off+a*i.size) l b 0 d w p (by simpa using h) k.one;simp only[VF]at j;rcases k.kind with ⟨s,m⟩|m<;>simp[Builtin.append_,run_underlying q,run_underlying m,sizeOf,typeInfo,hi,k.len,f,k.cells,Addr.add_lit,j,jN]
theorem Sa (w:World)(g:Nat)(a:Array Value)(b:TypeId)(c:w.heap[g]?=some (.cells a b (0,0)))(o:Nat):w.setRow g (jN a o [])=w:=by
 have:jN a o []=a:=by simp[jN]
 rw[this];exact setRow_self w g a b (0,0) c
theorem q48 {P:Program}(L:n0<=H.length)(O:Sim gid w M μ H)(t B D e G:TypeId)(i:TypeInfo)(s:Value)(Q:P.underlying t=some (.slice e))(z:P.underlying B=some (.slice G))(hi:P.info? e=some i)(hz:i.zero=some s)
 (A:s.cells.size=i.size) (I:0<i.size) {F:Value} {ys:List V} {a:Option Addr} {cap:Nat} (S:F=.slice a ys.length cap) (f:Shown gid w M μ a i.size ys) (x:ys≠[])
 (o:ys.length*i.bytes<=140737488355328) (J:ys.length<=9223372036854775807) :
 ∃E C r g,(Builtin.append_ #[t,B] D #[.slice none 0 0,F]).run P w=.ok E C/\Step gid n0 w M μ H C r g (H++[some ⟨i.size,ys,true,true⟩])/\R gid C r g E (.ref H.length i.size 0 ys.length):=by
 subst S;obtain⟨l,d,n⟩:=f.src z (cap:=cap) I;have q:0<ys.length:=List.length_pos_iff.2 x;have h:=run_append_grow_src (P:=P) w t B D e i s Q hi hz none 0 0 [] (by simp[Builtin.firstCells]) _ ys.length l d (by omega) (by omega) (by simpa using growslice_fits (need:=ys.length) (old:=0) q o);simp only[W1,List.nil_append]at h;have b:qm gid w M μ l.toArray i.size ys:=⟨by simpa using d.newsLen,fun k el m=>⟨(f.1 k el m).1,(f.1 k el m).2.1,fun j c K=>by simpa using n k el j c m K⟩⟩
 have v:=grownCap_ge w ys.length 0 e;have p:=uY (n0:=n0) L O (Same.drew w) b (fun el u=>by
  obtain⟨k,m⟩:=Wa u;exact(f.1 k el m).2.2) (Builtin.zeroCells s.cells (grownCap w ys.length 0 e-ys.length)) e ys.length (grownCap w ys.length 0 e) v (by
   rw[size_zeroCells,A];have:=d.newsLen;simp only[aaa,this,<-VI];exact Vn _ (by omega))
 obtain⟨r,g,y,N⟩:=p;exact⟨_,_,r,g,h,y,N⟩
theorem q47 {P:Program}(hn:n0<=H.length)(hs:Sim gid w M μ H)(t tx ty e e':TypeId)(i:TypeInfo)(zv:Value)(ht:P.underlying t=some (.slice e))(htx:P.underlying tx=some (.slice e'))(hi:P.info? e=some i)(hz:i.zero=some zv)
 (hzs:zv.cells.size=i.size) (h0:0<i.size) {x' y':Value} {b off len:Nat} {k:Blk} (hx:R gid w M μ x' (.ref b i.size off len)) (hk:H[b]?=some (some k)) (Z:k.arr=true) (hkw:k.wr=true) (hfitk:off+len<=k.el.length)
 {ys:List V} {a:Option Addr} {cap:Nat} (hy:y'=.slice a ys.length cap) (N:Shown gid w M μ a i.size ys)
 (hlim:(len+ys.length)*i.bytes<=140737488355328) (h63:len+ys.length<=9223372036854775807) :
 ∃v' w' U y,(Builtin.append_ #[t,tx] ty #[x',y']).run P w=.ok v' w' /\
  (if ys=[]then Step gid n0 w M μ H w' U y H/\R gid w' U y v' (.ref b i.size off len)
   else Step gid n0 w M μ H w' U y (H.set b none++[some ⟨i.size,(k.el.drop off).take len++ys,true,true⟩])/\R gid w' U y v' (.ref H.length i.size 0 (len+ys.length))):=by
 subst hy;obtain⟨f,r,O⟩:=N.src htx (cap:=cap) h0;obtain⟨ax,d,c,base,arr,Q,rfl,hc,hsp,Y,hμ,hoff,W,hsz,n⟩:=ua hs hk (hx.inv_rc rfl);obtain⟨A,s,sx⟩:=ax;simp only at hc hsp hoff hsz n;subst hc;subst hsp;have K:=r.newsLen;have p:((k.el.drop off).take len).length=len:=by simp;omega
 by_cases v:ys=[]
 ·have F:f=[]:=by apply VK;rw[K,v];simp
  have hy0:ys.length=0:=by rw[v];rfl
  have m:=Y0 (P:=P) (w:=w) t tx ty e i ht hi A s len d arr Q W _ ys.length f r (by omega) (by
   rw[F];have:=Vn i.size Y;simp only[abf];omega)
  rw[F,Sa w A arr Q W,hy0,VF]at m;rw[hy0];refine⟨_,w,M,μ,m,?_⟩;rw[Vh v];exact⟨.refl hs,hx⟩
 ·have hpos:0<ys.length:=List.length_pos_iff.2 v;have G:∀el ∈ (k.el.drop off).take len++ys,el.pure=true:=by
   intro el hel;rcases V6.1 hel with B|B
   ·obtain⟨q,h⟩:=Wa B;exact(n q el h).2.2.1 Z
   ·obtain⟨q,h⟩:=Wa B;exact(N.1 q el h).2.2
  by_cases I:len+ys.length<=d
  ·have hm1:=Vn i.size I;rw[VI]at hm1;have o:s+len*i.size+f.length<=arr.size:=by rw[K];omega
   have m:=Y0 (P:=P) (w:=w) t tx ty e i ht hi A s len d arr Q W _ ys.length f r I o;refine⟨_,_,M,(fun x=>if x=H.length then some (A,s,i.size)else μ x),m,?_⟩;rw[Vk v];have S:=Step.regrow (n0:=n0) (k':=⟨i.size,(k.el.drop off).take len++ys,true,true⟩) (base':=s) hn hs hμ hk hkw rfl rfl arr (jN arr (s+len*i.size) f) Q W (CF _ _ _ o)
    (by simp only[Xc,p];rw[VI];omega)
    (fun q el h=>by
     simp only at h;by_cases hql:q<len
     ·rw[Vr (by omega)]at h;obtain⟨B,J,h3,h4⟩:=n q el h;refine⟨B,J,fun j cv C=>?_⟩;obtain⟨x,l,z⟩:=h4 j cv C;refine⟨x,?_,z⟩;have hjz:j<i.size:=by rw[<-J];exact(Vi.1 C).1
      have:(q+1)*i.size<=len*i.size:=Vn _ hql;rw[VI]at this;rw[nz _ _ _ o,Vh (by omega)];exact l
     ·rw[VD (by omega),p]at h;obtain⟨B,J,h3⟩:=N.1 _ el h;refine⟨B,J,fun j cv C=>?_⟩;obtain⟨x,l,z⟩:=O _ el j cv h C;refine⟨x,?_,z⟩;have hjz:j<i.size:=by rw[<-J];exact(Vi.1 C).1
      have hqy:q-len<ys.length:=(Vi.1 h).1;have h5:q*i.size=len*i.size+(q-len)*i.size:=by rw[<-VI];congr 1;omega
      have h6:(q-len+1)*i.size<=ys.length*i.size:=Vn _ hqy;rw[VI]at h6;rw[nz _ _ _ o,Vk (by omega),Vh (by omega),show s+(q*i.size+j)-(s+len*i.size)=(q-len)*i.size+j by omega];exact l) (fun _=>G)
   refine⟨S,.c (.ref _ _ _ _ A s d ⟨A,s,none⟩ (jN arr (s+len*i.size) f) Q (0,0) (by simp) rfl rfl (by omega) (.inr (by simp)) (setRow_heap w A arr _ Q (0,0) W) (by rw[CF _ _ _ o];exact hsz))⟩
  ·have⟨g,L,ho2,ho3,ho4⟩:∃g:List Value,g.length=len*i.size/\(∀(j:Nat) (u:Value),g[j]?=some u->w.cell? ((⟨A,s,none⟩:Addr).add j)=some u)/\(∀u ∈ g,u.oneCell'=true) /\
    ∀(q:Nat) (el:V) (j:Nat) (cv:V),((k.el.drop off).take len)[q]?=some el->el.cells[j]?=some cv->∃x,g[q*i.size+j]?=some x/\RC gid w M μ x cv:=by
    have:=Shown.lay (gid:=gid) (w:=w) (M:=M) (μ:=μ) (a:=⟨A,s,none⟩) (ys:=(k.el.drop off).take len) h0 ⟨fun q el h=>⟨(n q el h).1,(n q el h).2.1,(n q el h).2.2.1 Z⟩,fun _=>⟨_,rfl,fun q el j cv h C=>by
     obtain⟨x,l,z⟩:=(n q el h).2.2.2 j cv C;exact⟨x,by rw[Addr.add_lit,cell_of_row w A _ arr Q (0,0) W,l],z⟩⟩⟩
    rwa[p]at this
   have m:=run_append_grow_src (P:=P) w t tx ty e i zv ht hi hz (some ⟨A,s,none⟩) len d g (run_firstCells_some w.drew i.size len _ len d g L (by simpa using ho2)) _ ys.length f r (by omega) (by omega) (growslice_fits (by omega) hlim);have E:qm gid w M μ (g++f).toArray i.size ((k.el.drop off).take len++ys):=by
    refine⟨by simp only[aaa,Xc,L,K,p];rw[VI],fun q el h=>?_⟩;by_cases hql:q<len
    ·rw[Vr (by omega)]at h;obtain⟨B,J,h3,h4⟩:=n q el h;refine⟨B,J,fun j cv C=>?_⟩;obtain⟨x,l,z⟩:=ho4 q el j cv h C;refine⟨x,?_,z⟩;rw[Xg,Vr (Vi.1 l).1];exact l
    ·rw[VD (by omega),p]at h;obtain⟨B,J,h3⟩:=N.1 _ el h;refine⟨B,J,fun j cv C=>?_⟩;obtain⟨x,l,z⟩:=O _ el j cv h C;refine⟨x,?_,z⟩;have h5:q*i.size=len*i.size+(q-len)*i.size:=by rw[<-VI];congr 1;omega
     rw[Xg,VD (by omega),L,show q*i.size+j-len*i.size=(q-len)*i.size+j by omega];exact l
   have D:=Step.kill (n0:=n0) (b:=b) hs;have hge:=grownCap_ge w (len+ys.length) d e;obtain⟨U,y,S,z⟩:=uY (n0:=n0) (by simpa using hn) D.sim (Same.drew w) E G (Builtin.zeroCells zv.cells (grownCap w (len+ys.length) d e-(len+ys.length))) e (len+ys.length) (grownCap w (len+ys.length) d e) hge (by
    rw[size_zeroCells,hzs];simp only[aaa,Xc,L,K];rw[<-VI,<-VI];exact Vn _ (by omega))
   refine⟨_,_,U,y,m,?_⟩;rw[Vk v];simp only[abe]at z;exact⟨D.trans S,z⟩
theorem qzu {P:Program}(N:n0<=H.length)(S:Sim gid w M μ H)(t C G e:TypeId)(k k':IntKind)(i:TypeInfo)(b:Value){c:V}(U:P.underlying t=some (.slice e))(z:P.underlying C=some (.int k))(hi:P.info? e=some i)(hz:i.zero=some b)
 (E:R gid w M μ b c) (g:c.isTup=false) (h:c.cells.length=i.size) (s:c.pure=true) (J:0<i.size) {n:Nat} (m:0<n) (l:n*i.bytes<=140737488355328) (K:n<=9223372036854775807) :
 ∃I D r a,(Builtin.append_ #[t,C] G #[.slice none 0 0,.int k' (n:Int)]).run P w=.ok I D/\Step gid n0 w M μ H D r a (H++[some ⟨i.size,List.replicate n c,true,true⟩])/\R gid D r a I (.ref H.length i.size 0 n):=by
 have q:b.cells.size=i.size:=by rw[(E.cells g).1,h]
 have F:=growslice_fits (need:=n) (old:=0) m l;have W:IntKind.i64.wrap (n:Int)=(n:Int):=by rw[IntKind.wrap_i64];omega
 have L:¬(281474976710656<(n:Int)*i.bytes):=by
  have:((n*i.bytes:Nat):Int)<=140737488355328:=by omega
  rw[XC]at this;omega
 have O:¬(n<=0):=by omega
 have f:¬(9223372036854775807<(n:Int)):=by omega
 have d:¬(281474976710656<Builtin.nextslicecap n 0*i.bytes):=by omega
 have A:¬(n*i.size=0):=by have:=Xj m J;omega
 have v:¬(n=0):=by omega
 have o:¬((n:Int)<0):=by omega
 have u:=grownCap_ge w n 0 e;have p:(Builtin.append_ #[t,C] G #[.slice none 0 0,.int k' (n:Int)]).run P w=.ok (.slice (some ⟨w.heap.size,0,none⟩) n (grownCap w n 0 e)) (w.drew.alloc (.cells ((Array.range (n*i.size)).map (fun j=>b.cells[j%b.cells.size]!)++Builtin.zeroCells b.cells (grownCap w n 0 e-n)) e)):=by
  simp[Builtin.append_,run_underlying U,run_underlying z,sizeOf,typeInfo,zeroValue,hi,hz,asInt,asIntOf,W,L,v,o,f,d,A,Question.forced,newRow,grownCap,Builtin.firstCells,Builtin.zeroCells,q]
 have B:=U1 E g h n;obtain⟨r,a,y,Q⟩:=uY (n0:=n0) N S (Same.drew w) B (fun x Y=>by rw[Xi Y];exact s) (Builtin.zeroCells b.cells (grownCap w n 0 e-n)) e n (grownCap w n 0 e) u (by
  rw[size_zeroCells,q];simp only[Array.size_map,Array.size_range,<-VI];exact Vn _ (by omega))
 exact⟨_,_,r,a,p,y,Q⟩
theorem Ns {P:Program}(hs:Sim gid w M μ H)(t tx ty e _e':TypeId)(i:TypeInfo)(ht:P.underlying t=some (.slice e))(hi:P.info? e=some i)(h0:0<i.size)
 {x' y':Value} {b off len:Nat} {k:Blk} (hx:R gid w M μ x' (.ref b i.size off len)) (U:H[b]?=some (some k)) (_hka:k.arr=true) (hkw:k.wr=true) (I:off+len<=k.el.length)
 {ys:List V} {a:Option Addr} {cap:Nat} (hy:y'=.slice a ys.length cap) (o:Shown gid w M μ a i.size ys) :
 ∃w',(Builtin.copy_ #[t,tx] ty #[x',y']).run P w=.ok (.int .i64 (Nat.min ys.length len:Nat)) w'/\Step gid n0 w M μ H w' M μ (H.set b (some { k with el:=fZ k.el off (ys.take len) })):=by
 subst hy;obtain⟨ax,S,c,p,arr,et,rfl,hc,hsp,hcap,hμ,F,hw,hsz,hcs⟩:=ua hs U (hx.inv_rc rfl);obtain⟨bx,ox,sx⟩:=ax;simp only at hc hsp F hsz hcs;subst hc;subst hsp;have s:=hs.blk b bx p i.size k hμ U;obtain⟨arr1,et1,l1,l2,l3⟩:=s.lay;rw[hw]at l1;injection l1 with l1
 injection l1 with w1 w2 w3
 subst w1;subst w2;have m:(ys.take len).length=Nat.min ys.length len:=by rw[Xt];exact Nat.min_comm _ _
 have W:Nat.min ys.length len<=len:=Nat.min_le_right _ _;have⟨d,K,B,hn3,hn4⟩:∃d:List Value,d.length=(ys.take len).length*i.size/\(Builtin.firstCells i.size (Nat.min ys.length len) (.slice a ys.length cap)).run P w=.ok d.toArray w/\(∀u ∈ d,u.oneCell'=true) /\
  ∀(q:Nat) (el:V) (j:Nat) (cv:V),(ys.take len)[q]?=some el->el.cells[j]?=some cv->∃x,d[q*i.size+j]?=some x/\RC gid w M μ x cv:=by
  cases a with
  |none=>
   cases ys with
   |nil=>exact⟨[],by simp,by simp[Builtin.firstCells],by simp,by simp⟩
   |cons y ys=>obtain⟨_,he,_⟩:=o.2 (by simp);cases he
  |some a=>
   have hsh':Shown gid w M μ (some a) i.size (ys.take len):=by
    refine⟨fun q el f=>o.1 q el ?_,fun Y=>?_⟩
    ·rw[WQ]at f;split at f
     ·exact f
     ·cases f
    ·obtain⟨ad,he,hc⟩:=o.2 (by intro h;rw[h]at Y;simp at Y);refine⟨ad,he,fun q el j cv f A=>hc q el j cv ?_ A⟩;rw[WQ]at f;split at f
     ·exact f
     ·cases f
   obtain⟨d,C,z,Q,g4⟩:=hsh'.lay h0;exact⟨d,C,run_firstCells_some w i.size (Nat.min ys.length len) a ys.length cap d (by rw[C,m]) z,Q,g4⟩
 rw[m]at K;have hrow:(off+len)*i.size<=k.el.length*i.size:=Vn _ I;rw[VI]at hrow;have hmz:Nat.min ys.length len*i.size<=len*i.size:=Vn _ W;by_cases J:Nat.min ys.length len=0
 ·have Z:ys.take len=[]:=VK (by rw[m];exact J);have L:d=[]:=VK (by rw[K,J];simp);subst L;refine⟨w,?_,?_⟩
  ·simp only[abn]at B J ⊢;simp[Builtin.copy_,run_underlying ht,Builtin.lenOf,sizeOf,typeInfo,hi,abn,B,storeCells,goInt]
  ·have:({ k with el:=fZ k.el off (ys.take len) }:Blk)=k:=by
    rw[Z];simp[fZ]
   rw[this];have N:H.set b (some k)=H:=by
    apply List.ext_getElem?;intro q;by_cases f:b=q
    ·subst f;rw[Wk (Vi.1 U).1,U]
    ·rw[Wc f]
   rw[N];exact .refl hs
 ·have G:S≠0:=by omega
  have hox:ox=p+off*i.size:=F.resolve_left G;have g:ox+d.length<=arr.size:=by rw[K,hox];omega
  have O:=run_storeCells_at P bx ox et d 0 arr w hw (by simpa using g) hn3;simp only[VF]at O;refine⟨_,?_,Step.write hs hμ U hkw arr (jN arr ox d) et hw (CF _ _ _ g) (fZ k.el off (ys.take len)) (by rw[CR _ _ _ (by rw[m];omega)];exact l2) ?_ ?_ ?_⟩
  ·simp only[abn]at B O ⊢;simp[Builtin.copy_,run_underlying ht,Builtin.lenOf,sizeOf,typeInfo,hi,abn,B,O,goInt,jN]
  ·intro q el f;rw[Cx _ _ _ (by rw[m];omega),m]at f;by_cases c1:q<off
   ·rw[Vh c1]at f;obtain⟨C,z,Q⟩:=l3 q el f;refine⟨C,z,fun j cv A=>?_⟩;obtain⟨x,v,hr⟩:=Q j cv A;refine⟨x,?_,hr⟩;have hjz:j<i.size:=by rw[<-z];exact(Vi.1 A).1
    have h5:(q+1)*i.size<=off*i.size:=Vn _ c1;rw[VI]at h5;rw[nz _ _ _ g,Vh (by omega)];exact v
   ·rw[Vk c1]at f;by_cases c2:q<off+Nat.min ys.length len
    ·rw[Vh c2]at f;have hq2:ys[q-off]?=some el:=by
      rw[WQ]at f;split at f
      ·exact f
      ·cases f
     obtain⟨C,z,Q⟩:=o.1 _ el hq2;refine⟨C,z,fun j cv A=>?_⟩;obtain⟨x,v,hr⟩:=hn4 _ el j cv f A;refine⟨x,?_,hr⟩;have hjz:j<i.size:=by rw[<-z];exact(Vi.1 A).1
     have h5:q*i.size=off*i.size+(q-off)*i.size:=by rw[<-VI];congr 1;omega
     have h6:(q-off+1)*i.size<=Nat.min ys.length len*i.size:=Vn _ (by omega);rw[VI]at h6;rw[nz _ _ _ g,Vk (by omega),Vh (by omega),show p+(q*i.size+j)-ox=(q-off)*i.size+j by omega];exact v
    ·rw[Vk c2]at f;obtain⟨C,z,Q⟩:=l3 q el f;refine⟨C,z,fun j cv A=>?_⟩;obtain⟨x,v,hr⟩:=Q j cv A;refine⟨x,?_,hr⟩;have h5:(off+Nat.min ys.length len)*i.size<=q*i.size:=Vn _ (by omega);rw[VI]at h5;rw[nz _ _ _ g,Vk (by omega),Vk (by omega)];exact v
  ·intro D el l;unfold fZ at l;simp only[V6]at l;rcases l with (r|r)|r
   ·exact s.pur D el (W4 r)
   ·obtain⟨q,f⟩:=Wa (W4 r);exact(o.1 q el f).2.2
   ·exact s.pur D el (Xk r)
  ·intro n hn hbn E el l x hx;unfold fZ at l;simp only[V6]at l;rcases l with (r|r)|r
   ·exact E el (W4 r) x hx
   ·obtain⟨q,f⟩:=Wa (W4 r);exact .cell (VU.1 (o.1 q el f).2.2 x hx)
   ·exact E el (Xk r) x hx
end Go.Abs
namespace Go.Abs
variable {T : Tab} {w : World} {M : Nat → Prop} {μ : bp} {H : ab} {n0 : Nat}
theorem Out.of {v:V}{H1:ab}{r:Result Next}{v':Value}{w':World}{M':Nat->Prop}{μ':bp}(h:r=.ok (.value v') w')(a:Step T.gid n0 w M μ H w' M' μ' H1)(b:R T.gid w' M' μ' v' v):Out T.gid n0 w M μ H r v H1:=
 ⟨v',w',M',μ',.inl h,a,b⟩
theorem bG {s:Sem Value}{P:Program}{v':Value}{w':World}(h:s.run P w=.ok v' w'):(do pure (Next.value (<-s)):Sem Next).run P w=.ok (.value v') w':=by simp[h]
theorem jV {P:Program}{t e:TypeId}(h:ns P t=some e):P.underlying t=some (.slice e):=by
 unfold ns at h;split at h
 ·injection h with h;subst h;assumption
 ·cases h
theorem aU {c d:Type}{x:Option c}{f:c->d}{b:d}(h:x.map f=some b):∃a,x=some a/\f a=b:=VV.1 h
theorem ar {c d:Type}{x:Option c}{f:c->Option d}{b:d}(h:x.bind f=some b):∃a,x=some a/\f a=some b:=Vz.1 h
theorem Va {o:Oper}{op:AOp}(A:c7 T o.op=some op)(hn:n0<=H.length)(B:Sim T.gid w M μ H){a:Act}{E:aA}(J:ERel T.gid w M μ a.tmps E){v:V}{H1:ab}(h:aS n0 op E H=some (v,H1)) :
 Out T.gid n0 w M μ H ((execOp a.eval o).run T.P w) v H1:=by
 obtain⟨dst,cop,ty,pos,after,guard⟩:=o;simp only at A;cases cop
 case move x=>
  obtain⟨x',Q,rfl⟩:=aU A;simp only[aS]at h;injection h with h;injection h with I S;subst I;subst S
  exact .pure B rfl (c8 B.tab Q J)
 case assign x=>
  obtain⟨x',Q,rfl⟩:=aU A;simp only[aS]at h;injection h with h;injection h with I S;subst I;subst S
  exact .pure B rfl (c8 B.tab Q J)
 case pick c x y=>
  obtain⟨c',Q,A⟩:=ar A;obtain⟨x',I,A⟩:=ar A;obtain⟨y',S,rfl⟩:=aU A;simp only[aS]at h;have hc:=c8 B.tab Q J;split at h
  ·rename_i t ht;rw[ht]at hc;injection h with h;injection h with U K;subst U;subst K
   refine .pure (v':=if t then a.eval x else a.eval y) B (by simp[execOp,hc.inv_bool,asBool]) ?_;cases t
   ·exact c8 B.tab S J
   ·exact c8 B.tab I J
  ·cases h
 case alloc t=>
  obtain⟨zv,Q,A⟩:=ar A;obtain⟨z,I,A⟩:=ar A;split at A
  ·injection A with A;subst A
   obtain⟨i,z',S,U,K⟩:=qZ Q;simp only[aS]at h;split at h
   ·rename_i hc;injection h with h;injection h with G F;subst G;subst F
    obtain⟨M',μ',hst,hr⟩:=q51 hn B (mM K).1 (mM (gid:=T.gid) (w:=w) (M:=M) (μ:=μ) K).2.2 t;rw[hc.1]at hst;exact .of (by simp[execOp,Instr.alloc,CP S U,newVar,newRow]) hst hr
   ·cases h
  ·cases A
 case box t x=>
  obtain⟨z,Q,A⟩:=ar A;obtain⟨x',I,rfl⟩:=aU A;simp only[aS]at h;split at h
  ·rename_i hc;injection h with h;injection h with G F;subst G;subst F
   obtain⟨M',μ',hst,hr⟩:=q51 hn B (c8 B.tab I J) hc.2 t;rw[hc.1]at hst;exact .of (by simp[execOp,Instr.box,newVar,newRow]) hst hr
  ·cases h
 case build t ps=>
  simp only[c7]at A;split at A
  ·rename_i fs hu;split at A
   ·rename_i hall;obtain⟨zv,Q,A⟩:=ar A;obtain⟨ps',I,rfl⟩:=aU A;obtain⟨i,z',S,U,K⟩:=qZ Q;simp only[aS]at h;split at h
    ·obtain⟨cs,G,F⟩:=aU h;injection F with F L;subst F;subst L
     have hz:=mM (gid:=T.gid) (w:=w) (M:=M) (μ:=μ) K;have hzc:=hz.1.cells hz.2.2;obtain⟨hl,hpq⟩:=Ek B.tab (u5 T.P fs) ps.toList I J;obtain⟨arr',h9,W⟩:=Ef (u5 T.P fs) _ _ ⟨hzc.1,hzc.2⟩ hl hpq G;have hplaces:∀(l:List Field),(l.all fun f=>(dS T.P f.type).isSome)=true->(l.mapM fun f=>(do pure (f.offset,<-sizeOf f.type):Sem (Nat × Nat))).run T.P w=.ok (l.map fun f=>(f.offset,(dS T.P f.type).getD 0)) w:=by
      intro l;induction l with
      |nil=>intro _;rfl
      |cons f l ih=>
       intro hl;simp only[Yi,VA]at hl;obtain⟨z1,hz1⟩:=Option.isSome_iff_exists.1 hl.1;rw[aaz];simp only[Sem.run_bind,kn hz1,Result.andThen_ok,Sem.run_pure,ih hl.2,aaM,hz1,Xd]
     refine .of (v':=.agg arr') (w':=w) ?_ (.refl B) (.agg _ _ W.1 W.2);have hm:(fs.mapM fun f=>(do pure (f.offset,<-sizeOf f.type):Sem (Nat × Nat))).run T.P w=.ok (fs.toList.map fun f=>(f.offset,(dS T.P f.type).getD 0)).toArray w:=by
      rw[aaF];simp only[Sem.run_map,hplaces fs.toList hall,Result.andThen_ok]
     have hplace:(fun i=>(fs.toList.map fun f=>(f.offset,(dS T.P f.type).getD 0)).toArray[i]?)=u5 T.P fs:=by
      funext i;simp only[Xg,WE,abk,u5];cases hfi:fs[i]? with
      |none=>rfl
      |some f=>
       have:f ∈ fs.toList:=by rw[XY];exact Array.mem_of_getElem? hfi
       obtain⟨z1,hz1⟩:=Option.isSome_iff_exists.1 (VU.1 hall f this);simp[hz1]
     simp only[execOp,Instr.build];refine bG ?_;simp only[Sem.run_bind,CP S U,Result.andThen_ok,run_underlying hu,hm,aaP];rw[hplace,h9];rfl
    ·cases h
   ·cases A
  ·rename_i n e hu;obtain⟨zv,Q,A⟩:=ar A;obtain⟨s,h1',A⟩:=ar A;obtain⟨ps',I,rfl⟩:=aU A;obtain⟨i,z',S,U,K⟩:=qZ Q;simp only[aS]at h;split at h
   ·obtain⟨cs,G,F⟩:=aU h;injection F with F L;subst F;subst L
    have hz:=mM (gid:=T.gid) (w:=w) (M:=M) (μ:=μ) K;have hzc:=hz.1.cells hz.2.2;obtain⟨hl,hpq⟩:=Ek B.tab (fun i=>some (i*s,s)) ps.toList I J;obtain⟨arr',h9,W⟩:=Ef (fun i=>some (i*s,s)) _ _ ⟨hzc.1,hzc.2⟩ hl hpq G;refine .of (v':=.agg arr') (w':=w) ?_ (.refl B) (.agg _ _ W.1 W.2);simp only[execOp,Instr.build];refine bG ?_;simp only[Sem.run_bind,CP S U,Result.andThen_ok,run_underlying hu,kn h1',aaP];rw[h9];rfl
   ·cases h
  ·cases A
 case buildSlice t len ps=>
  obtain⟨e,Q,A⟩:=ar A;obtain⟨zv,I,A⟩:=ar A;obtain⟨z,S,A⟩:=ar A;obtain⟨ps',U,A⟩:=ar A;split at A
  ·rename_i C;injection A with A;subst A
   obtain⟨i,z',K,G,F⟩:=qZ I;simp only[aS]at h;split at h
   ·rename_i hzc;obtain⟨⟨vs,Ha⟩,L,h⟩:=ar h;obtain⟨el,h9,h⟩:=aU h;injection h with W h11;subst W;subst h11
    have hz:=mM (gid:=T.gid) (w:=w) (M:=M) (μ:=μ) F;obtain⟨hrs,hidx⟩:=Yy B.tab ps.toList U J;obtain⟨Ma,hst,hrs',hpur,hlen⟩:=FI (n0:=n0) _ B L hrs;have hze:=U1 (hst.r B hz.1) hz.2.2 hzc.1 len;have hsame:(ps.toList.map fun p=>(p.1,a.eval p.2)).length=((ps'.map (·.1)).zip vs).length:=by
     have e1:vs.length=ps'.length:=by rw[<-hrs'.1,hrs.1];simp
     have e2:ps.toList.length=ps'.length:=by simpa using W2 List.length hidx
     simp[e1];simpa using e2
    obtain⟨arr',g1,g2,g3,g4⟩:=q23 (gid:=T.gid) (w:=w) (M:=Ma) (μ:=μ) _ _ hze hsame (fun j p q hp hq=>by
     simp only[WE,VV]at hp;obtain⟨⟨i1,x1⟩,hp1,rfl⟩:=hp;obtain⟨i2,v2⟩:=q;rw[List.getElem?_zip_eq_some]at hq;obtain⟨hq1,hq2⟩:=hq;have hi1:(ps.toList.map (·.1))[j]?=some i1:=by simp only[WE,hp1,WX]
     rw[hidx,hq1]at hi1;injection hi1 with hi1
     refine⟨hi1.symm,hrs'.2 j (a.eval x1) v2 (by simp only[WE,hp1,WX]) hq2,hpur v2 (VX hq2)⟩) (fun e he=>by
      rw[Xi he];exact hz.2.1) h9
    have hel:el.length=len:=by rw[g4];simp
    obtain⟨M',μ',hst2,hr⟩:=uY (n0:=n0) (by rw[hlen];exact hn) hst.sim (Same.refl w) g2 g3 #[] e len len (Vo _) (by
     rw[g2.1,hel];simp)
    rw[abB]at hst2 hr;refine .of (v':=.slice (some ⟨w.heap.size,0,none⟩) len len) ?_ (hst.trans hst2) hr;simp only[execOp,Instr.buildSlice];refine bG ?_;have hne:¬(len*z > 2^24):=by omega
    simp only[Sem.run_bind,run_underlying (jV Q),Result.andThen_ok,kn S,hne,V8,aaP];by_cases h0:len*z=0
    ·have he0:len=0:=by
      rcases Nat.mul_eq_zero.1 h0 with h|h
      ·exact h
      ·omega
     subst he0;simp only[WR,Wm,pure_bind]at g1 ⊢;have:Array.map (fun x=>(#[]:Array Value)[x%(#[]:Array Value).size]!) (Array.range 0)=Array.map (fun i=>z'.cells[i%z'.cells.size]!) (Array.range 0):=by rw[Array.range_zero'];simp
     rw[this,g1];rfl
    ·rw[Vk h0];simp only[Sem.run_bind,CP K G,Result.andThen_ok,Sem.run_pure];rw[g1];rfl
   ·cases h
  ·cases A
 case load t x=>
  obtain⟨ag,Q,A⟩:=ar A;obtain⟨z,I,A⟩:=ar A;obtain⟨x',S,rfl⟩:=aU A;simp only[aS]at h;have D:=c8 B.tab S J;split at h
  ·rename_i cs O;rw[O]at D;obtain⟨v1,U,K⟩:=aU h;injection K with K G;subst K;subst G
   obtain⟨ad,he,hp⟩:=D.inv_eptr;obtain⟨v',F,L⟩:=CG Q I (ZR (μ:=μ) hp) U;exact .pure B (by simp only[execOp,Instr.loadAt,he,Instr.sureAddr,pure_bind];exact bG F) L
  ·rename_i b i off O;rw[O]at D;split at h
   ·rename_i k hk;split at h
    ·rename_i e he;obtain⟨v1,U,K⟩:=aU h;injection K with K G;subst K;subst G
     obtain⟨c,Z,zb,hμ,hv⟩:=D.inv_ptr;obtain⟨v',F,L⟩:=CG Q I (Ao B hμ hk he) U;exact .pure B (by simp only[execOp,Instr.loadAt,hv,Instr.sureAddr,pure_bind];exact bG F) L
    ·cases h
   ·cases h
  ·cases h
 case store t x y=>
  obtain⟨z,Q,A⟩:=ar A;obtain⟨x',I,A⟩:=ar A;obtain⟨y',S,rfl⟩:=aU A;simp only[aS,nd]at h;have D:=c8 B.tab I J;have hy:=c8 B.tab S J;split at h
  ·rename_i b i off O;rw[O]at D;split at h
   ·rename_i k hk;split at h
    ·rename_i ht;obtain⟨⟨v1,Ha⟩,U,h⟩:=ar h;simp only[]at h;split at h
     ·rename_i k1 hk1;split at h
      ·rename_i e he;split at h
       ·rename_i C;obtain⟨c1,c2,c3,c4⟩:=C;injection h with h;injection h with K G;subst K;subst G
        have main:∃Ma,Step T.gid n0 w M μ H w Ma μ Ha/\R T.gid w Ma μ (a.eval y) v1/\v1.isTup=false/\(k1.arr=true\/b<n0->v1.pure=true):=by
         split at U
         ·obtain⟨Ma,g1,g2,g3,_⟩:=E3 (n0:=n0) B U hy;exact⟨Ma,g1,g2,by cases v1<;>first|rfl| (simp[V.pure,V.cells,V.cellPure]at g3),fun _=>g3⟩
         ·rename_i hno;injection U with U;injection U with K G;subst K;subst G
          exact⟨M,.refl B,hy,ht,fun hc=>absurd (by rw[<-c2];exact hc) hno⟩
        obtain⟨Ma,g1,g2,g3,g4⟩:=main;obtain⟨w',g5,g6⟩:=P8 (n0:=n0) Q g1.sim (g1.r B D) g2 g3 hk1 he c1 c3 c4 g4;exact⟨Go.undef,w',Ma,μ,.inr ⟨by simp only[execOp,Sem.run_bind,g5,Result.andThen_ok];rfl,rfl⟩,g1.trans g6,R.undef⟩
       ·cases h
      ·cases h
     ·cases h
    ·cases h
   ·cases h
  ·cases h
 case binOp bop t x y u=>
  obtain⟨bk,Q,A⟩:=ar A;obtain⟨x',I,A⟩:=ar A;obtain⟨y',S,rfl⟩:=aU A;simp only[aS]at h;obtain⟨v1,U,K⟩:=aU h;injection K with K G;subst K;subst G
  obtain⟨v',F,L⟩:=Qi Q (c8 B.tab I J) (c8 B.tab S J) U x y;exact .pure B (by simp only[execOp];exact bG F) L
 case unOp uop t x=>
  obtain⟨x',I,rfl⟩:=aU A;simp only[aS]at h;obtain⟨v1,U,K⟩:=aU h;injection K with K G;subst K;subst G
  obtain⟨v',F,L⟩:=P0 (P:=T.P) (c8 B.tab I J) U;exact .pure B (by simp only[execOp];exact bG F) L
 case convert src dst x=>
  simp only[c7]at A;split at A
  ·rename_i ds k hu1 hu2;obtain⟨x',I,rfl⟩:=aU A;simp only[aS]at h;split at h
   ·rename_i k' n O;have D:=c8 B.tab I J;rw[O]at D;injection h with h;injection h with K G;subst K;subst G
    refine .pure B ?_ (.c (.p (.int k (k.wrap n))));simp only[execOp,D.inv_int];refine bG ?_;unfold convert;simp only[Sem.run_bind,run_underlying hu1,run_underlying hu2,Result.andThen_ok];rfl
   ·cases h
  ·cases A
 case makeFunc fn first caps=>
  cases fn<;>simp only[c7]at A<;>try(cases A;done)
  rename_i f;split at A
  ·rename_i hf0;obtain⟨g,Q,A⟩:=ar A;obtain⟨cs,I,rfl⟩:=aU A;simp only[aS]at h;split at h
   ·rename_i hcells;injection h with h;injection h with K G;subst K;subst G
    have hcs:=An B.tab caps.toList I J;have hfe:first=#[]:=aah hf0
    subst hfe;refine .pure B (v':=.func (.func f) #[] (caps.map a.eval)) (by simp[execOp,Instr.makeFunc]) (.c (.fn f g _ _ Q (by simpa using hcs.1) fun i v c hv hc=>?_));exact(hcs.2 i v c (by simpa using hv) hc).inv_rc (VU.1 hcells c (VX hc))
   ·cases h
  ·cases A
 case makeSlice t l c=>
  obtain⟨e,Q,A⟩:=ar A;obtain⟨zv,I,A⟩:=ar A;obtain⟨z,S,A⟩:=ar A;obtain⟨ti,U,A⟩:=ar A;obtain⟨l',K,A⟩:=ar A;obtain⟨c',G,A⟩:=ar A;split at A
  ·rename_i C;injection A with A;subst A
   obtain⟨i,z',g1,g2,g3⟩:=qZ I;obtain⟨i2,g4,g5⟩:=uV S;rw[U]at g1;injection g1 with g1;subst g1
   rw[U]at g4;injection g4 with g4;subst g4
   simp only[aS]at h;split at h
   ·rename_i ln cn hl hc;split at h
    ·rename_i hb;obtain⟨b1,b2,b3,b4,b5⟩:=hb;injection h with h;injection h with F L;subst F;subst L
     obtain⟨kl,il,e1,e2,e3,e4⟩:=mR (c8 B.tab K J) hl;obtain⟨kc,ic,e5,e6,e7,e8⟩:=mR (c8 B.tab G J) hc;have hz:=mM (gid:=T.gid) (w:=w) (M:=M) (μ:=μ) g3;have hr:=run_make (P:=T.P) w t e ti z' (jV Q) U g2 kl kc il ic e2 (by omega) (by
      rw[e8];have:((cn*ti.bytes:Nat):Int)<=281474976710656:=by omega
      rw[XC,XH]at this;exact this) (by omega)
     rw[e3,e7,g5]at hr;have hze:=U1 hz.1.soft (V.soft_tup hz.2.2) b4 cn;obtain⟨M',μ',hst,hro⟩:=uY (n0:=n0) hn B (Same.refl w) hze (fun x D=>by rw[Xi D];exact b5) #[] e ln cn b1 (by simp);rw[abB]at hst hro;refine .of ?_ hst hro;simp only[execOp,e1,e5];refine bG ?_;rw[hr,Se]
    ·cases h
   ·cases h
  ·cases A
 case slice t x lo hi mx=>
  obtain⟨e,Q,A⟩:=ar A;obtain⟨z,I,A⟩:=ar A;obtain⟨x',S,A⟩:=ar A;obtain⟨lo',U,A⟩:=ar A;obtain⟨hi',K,A⟩:=ar A;obtain⟨mx',G,A⟩:=ar A;split at A
  ·cases A
  ·rename_i hmh;injection A with A;subst A
   have D:=c8 B.tab S J;have hmh':(mx.map a.eval).isSome=true->(hi.map a.eval).isSome=true:=by
    intro hm;have e1:mx'.isSome=true:=by
     cases mx with
     |none=>simp at hm
     |some m=>simp only[j4]at G;obtain⟨q,_,rfl⟩:=aU G;rfl
    cases hi with
    |some q=>rfl
    |none=>
     simp only[j4]at K;injection K with K
     subst K;exact absurd ⟨e1,rfl⟩ hmh
   simp only[aS]at h;split at h
   ·rename_i O;rw[O]at D;split at h
    ·rename_i q1 q2 q3;injection h with h;injection h with F L;subst F;subst L
     have hr:=CH (P:=T.P) (w:=w) (a:=none) (len:=0) (cap:=0) (jV Q) I (mS B.tab U J q1) (mS B.tab K J q2) (mS B.tab G J q3) (Vo _) (Vo _) (Vo _) hmh';refine .pure (v':=.slice none 0 0) B ?_ (.c (.p .nil));simp only[execOp,D.inv_nil];refine bG ?_;rw[hr];rfl
    ·cases h
   ·rename_i l O;rw[O]at D;split at h
    ·rename_i lo0 hi0 mx0 q1 q2 q3;split at h
     ·rename_i hb;obtain⟨b1,b2,b3,b4⟩:=hb;injection h with h;injection h with F L;subst F;subst L
      obtain⟨ad,len,cap,hv,hlen,hcap,hp⟩:=D.inv_sl;subst hlen;cases mx with
      |none=>
       simp only[j4]at G;injection G with G;subst G
       simp only[d9]at q3;injection q3 with q3;subst q3
       have hr:=CH (P:=T.P) (w:=w) (a:=ad) (len:=l.length) (cap:=cap) (mx:=none) (jV Q) I (mS B.tab U J q1) (mS B.tab K J q2) rfl b1 (by omega) (Vo _) (by simp);refine .pure B ?_ (.c (.p (RP.slice hp b1 (m:=cap) (by omega) (Vo _) (by omega) b4)));simp only[execOp,hv,Option.map_none];exact bG hr
      |some m=>
       have q3':=mS B.tab (d:=cap) G J (n:=mx0) (by
        simp only[j4]at G;obtain⟨q,_,rfl⟩:=aU G;exact q3)
       have hr:=CH (P:=T.P) (w:=w) (a:=ad) (len:=l.length) (cap:=cap) (jV Q) I (mS B.tab U J q1) (mS B.tab K J q2) q3' b1 b2 (by omega) hmh';refine .pure B ?_ (.c (.p (RP.slice hp b1 (m:=mx0) b2 (by omega) (by omega) b4)));simp only[execOp,hv];exact bG hr
     ·cases h
    ·cases h
   ·rename_i b z' off len O;rw[O]at D;cases mx with
    |some m=>
     simp only[j4]at G;obtain⟨q,_,rfl⟩:=aU G
     revert h
     cases d9 E 0 lo'<;>cases d9 E len hi'<;>intro h<;>cases h
    |none=>
     simp only[j4]at G;injection G with G
     subst G;cases q1:d9 E 0 lo' with
     |none=>rw[q1]at h;cases h
     |some lo0=>
      cases q2:d9 E len hi' with
      |none=>rw[q1,q2]at h;cases h
      |some hi0=>
       rw[q1,q2]at h;simp only[]at h;split at h
       ·rename_i hb;obtain⟨b1,b2,b3⟩:=hb;injection h with h;injection h with F L;subst F;subst L;subst b3
        obtain⟨ad,cap,c,Z,arr,et,fr,hv,hμ,hcb,hsp,hcap,hoff,hw,hsz⟩:=D.inv_ref;have hr:=CH (P:=T.P) (w:=w) (a:=some ad) (len:=len) (cap:=cap) (mx:=none) (jV Q) I (mS B.tab U J q1) (mS B.tab K J q2) rfl b1 (by omega) (Vo _) (by simp);refine .pure B (v':=.slice (if cap=lo0 then some ad else(some ad).map (·.add (lo0*z'))) (hi0-lo0) (cap-lo0)) ?_ (.c ?_)
        ·simp only[execOp,hv,Option.map_none];exact bG hr
        ·by_cases hcl:cap=lo0
         ·rw[Vh hcl];exact .ref _ _ _ _ c Z _ ad arr et fr hμ hcb hsp (by omega) (.inl (by omega)) hw (by
           have:cap-lo0=0:=by omega
           rw[this];omega)
         ·rw[Vk hcl,WX,pM hsp];refine .ref _ _ _ _ c Z _ _ arr et fr hμ hcb rfl (by omega) (.inr ?_) hw ?_
          ·have ho:=hoff.resolve_left (by omega);simp only;rw[ho,VI];omega
          ·simp only;have e1:cap*z'=lo0*z'+(cap-lo0)*z':=by rw[<-VI];congr 1;omega
           omega
       ·cases h
   ·cases h
 case fieldAddr s x f=>
  simp only[c7]at A;split at A
  ·rename_i fs hu;obtain⟨fd,Q,A⟩:=ar A;obtain⟨z,I,A⟩:=ar A;obtain⟨x',S,A⟩:=ar A;split at A
   ·cases A
   ·rename_i hz;injection A with A;subst A
    have D:=c8 B.tab S J;simp only[aS]at h;split at h
    ·rename_i b i o O;rw[O]at D;injection h with h;injection h with F L;subst F;subst L
     obtain⟨c,Z,zb,hμ,hv⟩:=D.inv_ptr;refine .pure B (v':=.pointer (some ⟨c,Z+(i*zb+o)+fd.offset,none⟩)) ?_ (.c (.ptr _ _ _ c Z zb _ hμ (by omega)));simp only[execOp,hv];refine bG ?_;simp[Instr.fieldAt,run_underlying hu,Q,Instr.sureAddr,Zf I hz,Addr.add_lit]
    ·rename_i cs O;rw[O]at D;injection h with h;injection h with F L;subst F;subst L
     obtain⟨ad,hv,hp⟩:=D.inv_eptr;refine .pure B ?_ (.c (.p (hp.eptr_drop fd.offset)));simp only[execOp,hv];refine bG ?_;simp[Instr.fieldAt,run_underlying hu,Q,Instr.sureAddr,Zf I hz]
    ·cases h
  ·cases A
 case field t x f=>
  simp only[c7]at A;split at A
  ·rename_i fs hu;obtain⟨fd,Q,A⟩:=ar A;obtain⟨ag,I,A⟩:=ar A;obtain⟨z,S,A⟩:=ar A;obtain⟨x',U,rfl⟩:=aU A;have D:=c8 B.tab U J;simp only[aS]at h;split at h
   ·rename_i cs O;rw[O]at D;obtain⟨v1,K,G⟩:=aU h;injection G with G F;subst G;subst F
    obtain⟨arr,hv,hsz,hr⟩:=D.inv_agg;obtain⟨v',L,h9⟩:=Ac (P:=T.P) I S hsz hr K;refine .pure B ?_ h9;simp only[execOp,hv];refine bG ?_;simp[Instr.field,run_underlying hu,Q,asAgg,L]
   ·cases h
  ·cases A
 case indexAddr t x ix=>
  simp only[c7]at A;split at A
  ·rename_i e hu;obtain⟨z,I,A⟩:=ar A;obtain⟨x',S,A⟩:=ar A;obtain⟨i',U,rfl⟩:=aU A;have D:=c8 B.tab S J;have hi:=c8 B.tab U J;simp only[aS]at h;split at h
   ·rename_i l n O hn';rw[O]at D;split at h
    ·rename_i el hl;split at h
     ·rename_i hz;injection h with h;injection h with F L;subst F;subst L
      obtain⟨k,iv,e1,e2,e3,e4⟩:=mR hi hn';obtain⟨ad,len,cap,hv,hlen,hcap,hp⟩:=D.inv_sl;have hlt:n<l.length:=(Vi.1 hl).1;cases hp with
      |sl0=>simp at hlt
      |sl a0 len cap s l f hl0 ha hM hb hc' hs' hc hr'=>
       have hne:l≠[]:=fun h0=>by subst h0;simp at hlt
       replace ha:=ha hne;replace hM:=hM hne;replace hb:=hb hne
       refine .pure B (v':=.pointer (some (a0.add (n*z)))) ?_ (.c (.p ?_))
       ·simp only[execOp,hv,e1];refine bG ?_;have C:0<=iv/\iv<(len:Int):=by omega
        simp[Instr.indexAt,asIntOf,run_underlying hu,kn I,C.1,C.2,e3]
       ·rw[pM ha];have hsz:s=z:=by rw[<-hz,hs' n el hl]
        refine .eptr _ _ (fun j=>f n j) rfl hM hb (fun j c hj=>?_) (fun j c hj=>hr' n el j c hl hj);have:=hc n el j c hl hj;rw[<-this,hsz]
        congr 1
        simp only[Addr.mk.injEq,abW,and_true];omega
     ·cases h
    ·cases h
   ·rename_i b z' off len n O hn';rw[O]at D;split at h
    ·rename_i hb;injection h with h;injection h with F L;subst F;subst L
     obtain⟨b1,b2⟩:=hb;subst b2;obtain⟨k,iv,e1,e2,e3,e4⟩:=mR hi hn';obtain⟨ad,cap,c,Z,arr,et,fr,hv,hμ,hcb,hsp,hcap,hoff,hw,hsz⟩:=D.inv_ref;refine .pure B (v':=.pointer (some (ad.add (n*z')))) ?_ (.c ?_)
     ·simp only[execOp,hv,e1];refine bG ?_;have C:0<=iv/\iv<(len:Int):=by omega
      simp[Instr.indexAt,asIntOf,run_underlying hu,kn I,C.1,C.2,e3]
     ·rw[pM hsp,hcb];refine .ptr _ _ _ c Z z' _ hμ ?_;have ho:=hoff.resolve_left (by omega);rw[ho,VI];omega
    ·cases h
   ·cases h
  ·rename_i m e hu;obtain⟨z,I,A⟩:=ar A;obtain⟨x',S,A⟩:=ar A;obtain⟨i',U,rfl⟩:=aU A;have D:=c8 B.tab S J;have hi:=c8 B.tab U J;simp only[aS]at h;split at h
   ·rename_i b j off n O hn';rw[O]at D;split at h
    ·rename_i hb;injection h with h;injection h with F L;subst F;subst L
     obtain⟨k,iv,e1,e2,e3,e4⟩:=mR hi hn';obtain⟨c,Z,zb,hμ,hv⟩:=D.inv_ptr;refine .pure B (v':=.pointer (some ⟨c,Z+(j*zb+off)+n*z,none⟩)) ?_ (.c (.ptr _ _ _ c Z zb _ hμ (by omega)));simp only[execOp,hv,e1];refine bG ?_;have C:0<=iv/\iv<(m:Int):=by omega
     simp[Instr.indexAt,asIntOf,run_underlying hu,kn I,C.1,C.2,e3,Instr.sureAddr,Addr.add_lit]
    ·cases h
   ·rename_i cs n O hn';rw[O]at D;split at h
    ·rename_i hb;injection h with h;injection h with F L;subst F;subst L
     obtain⟨k,iv,e1,e2,e3,e4⟩:=mR hi hn';obtain⟨ad,hv,hp⟩:=D.inv_eptr;refine .pure B ?_ (.c (.p (hp.eptr_drop (n*z))));simp only[execOp,hv,e1];refine bG ?_;have C:0<=iv/\iv<(m:Int):=by omega
     simp[Instr.indexAt,asIntOf,run_underlying hu,kn I,C.1,C.2,e3,Instr.sureAddr]
    ·cases h
   ·cases h
  ·cases A
 case index t x ix=>
  simp only[c7]at A;split at A
  ·rename_i m e hu;obtain⟨ag,Q,A⟩:=ar A;obtain⟨z,I,A⟩:=ar A;obtain⟨x',S,A⟩:=ar A;obtain⟨i',U,rfl⟩:=aU A;have D:=c8 B.tab S J;have hi:=c8 B.tab U J;simp only[aS]at h;split at h
   ·rename_i cs n O hn';rw[O]at D;split at h
    ·rename_i hb;obtain⟨v1,K,G⟩:=aU h;injection G with G F;subst G;subst F
     obtain⟨k,iv,e1,e2,e3,e4⟩:=mR hi hn';obtain⟨arr,hv,hsz,hr⟩:=D.inv_agg;obtain⟨v',L,h9⟩:=Ac (P:=T.P) Q I hsz hr K;refine .pure B ?_ h9;simp only[execOp,hv,e1];refine bG ?_;have C:0<=iv/\iv<(m:Int):=by omega
     simp[Instr.index,asIntOf,run_underlying hu,kn I,C.1,C.2,e3,L]
    ·cases h
   ·cases h
  ·rename_i hu;obtain⟨x',S,A⟩:=ar A;obtain⟨i',U,rfl⟩:=aU A;have D:=c8 B.tab S J;have hi:=c8 B.tab U J;simp only[aS]at h;split at h
   ·rename_i s n O hn';rw[O]at D;split at h
    ·rename_i b hb;injection h with h;injection h with G F;subst G;subst F
     obtain⟨k,iv,e1,e2,e3,e4⟩:=mR hi hn';have hv:=D.inv_str;refine .pure B ?_ (.c (.p (.int .u8 b.toNat)));simp only[execOp,hv,e1];refine bG ?_;have C:0<=iv:=by omega
     simp[Instr.index,asIntOf,run_underlying hu,C,e3,hb]
    ·cases h
   ·cases h
  ·cases A
 case extract x i=>
  obtain⟨x',S,rfl⟩:=aU A;have D:=c8 B.tab S J;simp only[aS]at h;split at h
  ·rename_i vs O;rw[O]at D;obtain⟨v1,K,G⟩:=aU h;injection G with G F;subst G;subst F
   obtain⟨arr,hv,hsz,hr⟩:=D.inv_tup;have hlt:i<arr.size:=by rw[hsz];exact(Vi.1 K).1
   have he:arr[i]?=some arr[i]:=by simp[hlt]
   refine .pure B (v':=arr[i]) ?_ (hr i _ v1 he K);simp only[execOp,hv];refine bG ?_;simp[Instr.extract,he]
  ·cases h
 case call c=>
  obtain⟨callee,args,Y⟩:=c;cases callee
  case value f=>
   simp only[c7]at A;obtain⟨f',Q,A⟩:=ar A;obtain⟨q,I,rfl⟩:=aU A;simp[aS]at h
  case invoke r m=>cases A
  case builtin bi=>
   cases bi<;>simp only[c7]at A<;>try(cases A;done)
   case len=>
    split at A
    ·rename_i x t ha ht;have N:args=#[x]:=by cases args;simp at ha;simp[ha]
     subst N;split at A
     ·rename_i e hu;obtain⟨x',S,rfl⟩:=aU A;have D:=c8 B.tab S J;simp only[aS]at h;have main:∀{ad:Option Addr} {len cap:Nat},a.eval x=.slice ad len cap->(execOp a.eval ⟨dst,.call ⟨.builtin .len,#[x],Y⟩,ty,pos,after,guard⟩).run T.P w=.ok (.value (.int .i64 len)) w:=by
       intro ad len cap hv;simp[execOp,resolve,invoke,builtin,Builtin.len_,ht,hv,run_underlying hu,goInt]
      split at h
      ·rename_i l O;rw[O]at D;injection h with h;injection h with F L;subst F;subst L
       obtain⟨ad,len,cap,hv,hlen,hcap,hp⟩:=D.inv_sl;subst hlen;exact .pure B (main hv) (.c (.p (.int _ _)))
      ·rename_i O;rw[O]at D;injection h with h;injection h with F L;subst F;subst L
       exact .pure B (main D.inv_nil) (.c (.p (.int _ _)))
      ·rename_i O;rw[O]at D;injection h with h;injection h with F L;subst F;subst L
       obtain⟨ad,cap,hv⟩:=D.inv_emp;exact .pure B (main hv) (.c (.p (.int _ _)))
      ·rename_i b z off len O;rw[O]at D;injection h with h;injection h with F L;subst F;subst L
       obtain⟨ad,cap,c,Z,arr,et,fr,hv,_⟩:=D.inv_ref;exact .pure B (main hv) (.c (.p (.int _ _)))
      ·cases h
     ·rename_i hu;obtain⟨x',S,rfl⟩:=aU A;have D:=c8 B.tab S J;simp only[aS]at h;split at h
      ·rename_i s O;rw[O]at D;injection h with h;injection h with F L;subst F;subst L
       refine .pure B (v':=.int .i64 s.size) ?_ (.c (.p (.int _ _)));simp[execOp,resolve,invoke,builtin,Builtin.len_,ht,D.inv_str,run_underlying hu,goInt]
      ·cases h
     ·rename_i n e hu;obtain⟨x',S,rfl⟩:=aU A;simp only[aS]at h;injection h with h;injection h with F L;subst F;subst L
      refine .pure B (v':=.int .i64 n) ?_ (.c (.p (.int _ _)));simp[execOp,resolve,invoke,builtin,Builtin.len_,ht,run_underlying hu,goInt]
     ·cases A
    ·cases A
   case cap=>
    split at A
    ·rename_i x t ha ht;have N:args=#[x]:=by cases args;simp at ha;simp[ha]
     subst N;split at A
     ·rename_i e hu;obtain⟨x',S,rfl⟩:=aU A;have D:=c8 B.tab S J;simp only[aS]at h;split at h
      ·rename_i O;rw[O]at D;injection h with h;injection h with F L;subst F;subst L
       refine .pure B (v':=.int .i64 0) ?_ (.c (.p (.int _ _)));simp[execOp,resolve,invoke,builtin,Builtin.cap_,ht,D.inv_nil,run_underlying hu,goInt]
      ·cases h
     ·cases A
    ·cases A
   case append=>
    split at A
    ·rename_i x y t u ha ht;have N:args=#[x,y]:=by cases args;simp at ha;simp[ha]
     have htys:Y=#[t,u]:=by cases Y;simp at ht;simp[ht]
     subst N;subst htys;split at A
     ·rename_i hint;have⟨ik,hu⟩:∃ik,T.P.underlying u=some (.int ik):=by
       unfold qb at hint;split at hint
       ·rename_i ik hu;exact⟨ik,hu⟩
       ·cases hint
      obtain⟨e,Q,A⟩:=ar A;obtain⟨z,S,A⟩:=ar A;obtain⟨i,U,A⟩:=ar A;obtain⟨zv,K,A⟩:=ar A;obtain⟨x',G,A⟩:=ar A;obtain⟨y',F,A⟩:=ar A;split at A
      ·rename_i C;injection A with A;subst A
       obtain⟨c1,c2,c3⟩:=C;obtain⟨i1,z',g1,g2,g3⟩:=qZ K;obtain⟨i2,g4,g5⟩:=uV S;rw[U]at g1;injection g1 with g1;subst g1
       rw[U]at g4;injection g4 with g4;subst g4
       subst g5;have hz:=mM (gid:=T.gid) (w:=w) (M:=M) (μ:=μ) g3;have D:=c8 B.tab G J;simp only[aS]at h;split at h
       ·rename_i m O hm;rw[O]at D;obtain⟨kl,il,e1,e2,e3,e4⟩:=mR (c8 B.tab F J) hm;split at h
        ·rename_i hb;obtain⟨b1,b2,b3,b4,b5⟩:=hb;injection h with h;injection h with h9 W;subst h9;subst W
         obtain⟨v',w',M',μ',k1,k2,k3⟩:=qzu (P:=T.P) hn B t u ty e ik kl i z' (jV Q) hu U g2 hz.1 hz.2.2 b4 b5 c1 b1 b2 b3;refine .of (v':=v') (w':=w') ?_ k2 k3;rw[<-D.inv_nil,<-e4,<-e1]at k1;simp[execOp,resolve,invoke,builtin,k1]
        ·cases h
       ·cases h
      ·cases A
     obtain⟨e,Q,A⟩:=ar A;obtain⟨e',I,A⟩:=ar A;obtain⟨z,S,A⟩:=ar A;obtain⟨i,U,A⟩:=ar A;obtain⟨zv,K,A⟩:=ar A;obtain⟨x',G,A⟩:=ar A;obtain⟨y',F,A⟩:=ar A;split at A
     ·rename_i C;injection A with A;subst A
      obtain⟨c1,c2,c3⟩:=C;obtain⟨i1,z',g1,g2,g3⟩:=qZ K;obtain⟨i2,g4,g5⟩:=uV S;rw[U]at g1;injection g1 with g1;subst g1
      rw[U]at g4;injection g4 with g4;subst g4
      subst g5;have hz:=mM (gid:=T.gid) (w:=w) (M:=M) (μ:=μ) g3;have hzs:z'.cells.size=i.size:=by rw[(hz.1.cells hz.2.2).1,c2]
      have D:=c8 B.tab G J;have hy:=c8 B.tab F J;have lim:∀{m:Nat},jo m i.bytes=true->m*i.bytes<=140737488355328/\m<=9223372036854775807:=by
       intro m hm;simp only[jo,VT]at hm;have:m*1<=m*i.bytes:=VN _ c3;exact⟨hm,by omega⟩
      have exec:∀{v':Value} {w':World},(Builtin.append_ #[t,u] ty #[a.eval x,a.eval y]).run T.P w=.ok v' w' ->
       (execOp a.eval ⟨dst,.call ⟨.builtin .append,#[x,y],#[t,u]⟩,ty,pos,after,guard⟩).run T.P w=.ok (.value v') w':=by
       intro v' w' hr;simp[execOp,resolve,invoke,builtin,hr]
      simp only[aS]at h;obtain⟨ys,L,h⟩:=ar h;split at h
      ·rename_i hhead;obtain⟨ya,ycap,hyv,hsh⟩:=q29 B hy L hhead;split at h
       ·rename_i O;rw[O]at D;split at h
        ·rename_i hys;injection h with h;injection h with h9 W;subst h9;subst W
         subst hys;refine .pure B (exec (v':=.slice none 0 0) ?_) (.c (.p .nil));rw[D.inv_nil,hyv];cases ya<;>simp[Builtin.append_,run_underlying (jV Q),run_underlying (jV I),sizeOf,typeInfo,U,Builtin.lenOf,Builtin.firstCells,loadCells,loadCellsFrom]
        ·rename_i hys;split at h
         ·rename_i hlim;injection h with h;injection h with h9 W;subst h9;subst W
          obtain⟨l1,l2⟩:=lim hlim;obtain⟨v',w',M',μ',k1,k2,k3⟩:=q48 (P:=T.P) hn B t u ty e e' i z' (jV Q) (jV I) U g2 hzs c1 hyv hsh hys l1 l2;rw[<-D.inv_nil]at k1;exact .of (exec k1) k2 k3
         ·cases h
       ·rename_i b z1 off len O;rw[O]at D;split at h
        ·rename_i k hk;split at h
         ·rename_i hb;obtain⟨b1,b2,b3,b4,b5,b6⟩:=hb;subst b4;obtain⟨l1,l2⟩:=lim b6;obtain⟨v',w',M',μ',k1,k2⟩:=q47 (P:=T.P) hn B t u ty e e' i z' (jV Q) (jV I) U g2 hzs c1 D hk b1 b2 b5 hyv hsh l1 l2;split at h
          ·rename_i hys;rw[Vh hys]at k2;injection h with h;injection h with h9 W;subst h9;subst W
           exact .of (exec k1) k2.1 k2.2
          ·rename_i hys;rw[Vk hys]at k2;injection h with h;injection h with h9 W;subst h9;subst W
           exact .of (exec k1) k2.1 k2.2
         ·cases h
        ·cases h
       ·cases h
      ·cases h
     ·cases A
    ·cases A
   case copy=>
    split at A
    ·rename_i x y t u ha ht;have N:args=#[x,y]:=by cases args;simp at ha;simp[ha]
     have htys:Y=#[t,u]:=by cases Y;simp at ht;simp[ht]
     subst N;subst htys;obtain⟨e,Q,A⟩:=ar A;obtain⟨z,S,A⟩:=ar A;obtain⟨x',G,A⟩:=ar A;obtain⟨y',F,A⟩:=ar A;split at A
     ·rename_i c1;injection A with A;subst A
      obtain⟨i2,g4,g5⟩:=uV S;subst g5;have D:=c8 B.tab G J;have hy:=c8 B.tab F J;simp only[aS]at h;split at h
      ·rename_i b z1 off len O;rw[O]at D;obtain⟨ys,L,hh⟩:=ar h;clear h;split at hh
       ·rename_i k hk;split at hh
        ·rename_i hb;obtain⟨b1,b2,b3,b4,b5,b6⟩:=hb;subst b4;injection hh with hh;injection hh with h9 W;subst h9;subst W
         obtain⟨ya,ycap,hyv,hsh⟩:=q29 B hy L b5;obtain⟨w',k1,k2⟩:=Ns (P:=T.P) (n0:=n0) B t u ty e e i2 (jV Q) g4 c1 D hk b1 b2 b6 hyv hsh;refine .of (v':=.int .i64 (Nat.min ys.length len:Nat)) (w':=w') ?_ k2 (.c (.p (.int _ _)));simp[execOp,resolve,invoke,builtin,k1]
        ·cases hh
       ·cases hh
      ·cases h
     ·cases A
    ·cases A
   case min=>
    split at A
    ·rename_i x y ha;have N:args=#[x,y]:=by cases args;simp at ha;simp[ha]
     subst N;obtain⟨x',Q,A⟩:=ar A;obtain⟨y',I,rfl⟩:=aU A;have D:=c8 B.tab Q J;have hy:=c8 B.tab I J;simp only[aS]at h;split at h
     ·rename_i k p k' q hg1 hg2;rw[hg1]at D;rw[hg2]at hy;split at h
      ·injection h with h;injection h with h9 W;subst h9;subst W
       refine .pure B (v':=.int k (if q<p then q else p)) ?_ (.c (.p (.int _ _)));simp[execOp,resolve,invoke,builtin,Builtin.min_,Builtin.min2,D.inv_int,hy.inv_int]
      ·cases h
     ·cases h
    ·cases A
   case max=>
    split at A
    ·rename_i x y ha;have N:args=#[x,y]:=by cases args;simp at ha;simp[ha]
     subst N;obtain⟨x',Q,A⟩:=ar A;obtain⟨y',I,rfl⟩:=aU A;have D:=c8 B.tab Q J;have hy:=c8 B.tab I J;simp only[aS]at h;split at h
     ·rename_i k p k' q hg1 hg2;rw[hg1]at D;rw[hg2]at hy;split at h
      ·injection h with h;injection h with h9 W;subst h9;subst W
       refine .pure B (v':=.int k (if p<q then q else p)) ?_ (.c (.p (.int _ _)));simp[execOp,resolve,invoke,builtin,Builtin.max_,Builtin.max2,D.inv_int,hy.inv_int]
      ·cases h
     ·cases h
    ·rename_i x y z ha;have N:args=#[x,y,z]:=by cases args;simp at ha;simp[ha]
     subst N;obtain⟨x',Q,A⟩:=ar A;obtain⟨y',I,A⟩:=ar A;obtain⟨z',S,rfl⟩:=aU A;have D:=c8 B.tab Q J;have hy:=c8 B.tab I J;have hz:=c8 B.tab S J;simp only[aS]at h;split at h
     ·rename_i k p k' q k'' r hg1 hg2 hg3;rw[hg1]at D;rw[hg2]at hy;rw[hg3]at hz;split at h
      ·injection h with h;injection h with h9 W;subst h9;subst W
       refine .pure B (v':=.int k (if(if p<q then q else p)<r then r else if p<q then q else p)) ?_ (.c (.p (.int _ _)));simp[execOp,resolve,invoke,builtin,Builtin.max_,Builtin.max2,D.inv_int,hy.inv_int,hz.inv_int]
      ·cases h
     ·cases h
    ·cases A
 all_goals(cases A)
end Go.Abs
namespace Go.Abs
variable {T : Tab}
theorem dC {x:Operand}{c:X}(h:cX T x=some c){t:Nat}(a:x=.tmp t):t ∈ c.reads:=by
 subst a;simp only[cX]at h;injection h with h
 subst h;simp[X.reads]
theorem UR : ∀(a:List Operand) {cs:List X} (_:kP T a=some cs) {t:Nat},Operand.tmp t ∈ a->t ∈ cs.flatMap X.reads
 | [],cs,h,t,e=>by cases e
 |x :: a,cs,h,t,e=>by
  simp only[kP,Vz]at h;obtain⟨c,g,f,i,b⟩:=h;injection b with b
  subst b;rw[Xp,V6];rcases Wz.1 e with d|d
  ·exact .inl (dC g d.symm)
  ·exact .inr (UR a i d)
theorem Ei (a:Nat->Option (Nat × Nat)):∀(ps:List (Nat × Operand)) {cs:List (Nat × Nat × X)} (_:pj T a ps=some cs) {t:Nat},Operand.tmp t ∈ ps.map (·.2)->t ∈ cs.flatMap fun p=>p.2.2.reads
 | [],cs,h,t,e=>by cases e
 | (j,x) :: ps,cs,h,t,e=>by
  simp only[pj,Vz]at h;obtain⟨⟨off,size⟩,k,c,g,f,i,b⟩:=h;injection b with b
  subst b;rw[Xp,V6];rcases Wz.1 e with d|d
  ·exact .inl (dC g d.symm)
  ·exact .inr (Ei a ps i d)
theorem Yx : ∀(ps:List (Nat × Operand)) {cs:List (Nat × X)} (_:td T ps=some cs) {t:Nat},Operand.tmp t ∈ ps.map (·.2)->t ∈ cs.flatMap fun p=>p.2.reads
 | [],cs,h,t,d=>by cases d
 | (j,x) :: ps,cs,h,t,d=>by
  simp only[td,Vz]at h;obtain⟨c,f,e,g,a⟩:=h;injection a with a
  subst a;rw[Xp,V6];rcases Wz.1 d with b|b
  ·exact .inl (dC f b.symm)
  ·exact .inr (Yx ps g b)
theorem UQ {x:Option Operand}{c:Option X}(h:j4 T x=some c){t:Nat}(b:x=some (.tmp t)):t ∈ OX.reads c:=by
 subst b;simp only[j4]at h;obtain⟨q,a,rfl⟩:=aU h;exact dC a rfl
theorem OO {o:Op}{op:AOp}(h:c7 T o=some op){t:Nat}(a:Operand.tmp t ∈ o.operands):t ∈ op.reads:=by
 cases o
 case move x=>
  obtain⟨j,k,rfl⟩:=aU h;simp only[Op.operands,Wd,Wt]at a;exact dC k a.symm
 case assign x=>
  obtain⟨j,k,rfl⟩:=aU h;simp only[Op.operands,Wd,Wt]at a;exact dC k a.symm
 case pick c x y=>
  obtain⟨Q,k,h⟩:=ar h;obtain⟨j,b,h⟩:=ar h;obtain⟨w,d,rfl⟩:=aU h;simp only[Op.operands,Wd,Wz,Xu,aaQ]at a;simp only[AOp.reads,V6];rcases a with a|a|a
  ·exact .inl (.inl (dC k a.symm))
  ·exact .inl (.inr (dC b a.symm))
  ·exact .inr (dC d a.symm)
 case alloc=>simp[Op.operands]at a
 case box v x=>
  obtain⟨z,k,h⟩:=ar h;obtain⟨j,b,rfl⟩:=aU h;simp only[Op.operands,Wd,Wt]at a;exact dC b a.symm
 case build v ps=>
  simp only[Op.operands,Wd]at a;simp only[c7]at h;split at h
  ·split at h
   ·obtain⟨K,k,h⟩:=ar h;obtain⟨J,b,rfl⟩:=aU h;exact Ei _ _ b a
   ·cases h
  ·obtain⟨K,k,h⟩:=ar h;obtain⟨s,U,h⟩:=ar h;obtain⟨J,b,rfl⟩:=aU h;exact Ei _ _ b a
  ·cases h
 case buildSlice v len ps=>
  simp only[Op.operands,Wd]at a;obtain⟨e,k,h⟩:=ar h;obtain⟨K,b,h⟩:=ar h;obtain⟨z,d,h⟩:=ar h;obtain⟨J,p,h⟩:=ar h;split at h
  ·injection h with h;subst h;exact Yx _ p a
  ·cases h
 case load v x=>
  obtain⟨P,k,h⟩:=ar h;obtain⟨z,b,h⟩:=ar h;obtain⟨j,d,rfl⟩:=aU h;simp only[Op.operands,Wd,Wt]at a;exact dC d a.symm
 case store v x y=>
  obtain⟨z,k,h⟩:=ar h;obtain⟨j,b,h⟩:=ar h;obtain⟨w,d,rfl⟩:=aU h;simp only[Op.operands,Wd,Wz,Xu,aaQ]at a;simp only[AOp.reads,V6];rcases a with a|a
  ·exact .inl (dC b a.symm)
  ·exact .inr (dC d a.symm)
 case binOp bop v x y u=>
  obtain⟨bk,k,h⟩:=ar h;obtain⟨j,b,h⟩:=ar h;obtain⟨w,d,rfl⟩:=aU h;simp only[Op.operands,Wd,Wz,Xu,aaQ]at a;simp only[AOp.reads,V6];rcases a with a|a
  ·exact .inl (dC b a.symm)
  ·exact .inr (dC d a.symm)
 case unOp uop v x=>
  obtain⟨j,b,rfl⟩:=aU h;simp only[Op.operands,Wd,Wt]at a;exact dC b a.symm
 case convert src dst x=>
  simp only[c7]at h;split at h
  ·obtain⟨j,b,rfl⟩:=aU h;simp only[Op.operands,Wd,Wt]at a;exact dC b a.symm
  ·cases h
 case makeFunc fn first caps=>
  cases fn<;>simp only[c7]at h<;>try(cases h;done)
  split at h
  ·rename_i L;obtain⟨g,k,h⟩:=ar h;obtain⟨cs,b,rfl⟩:=aU h;have M:first=#[]:=aah L
   subst M;simp only[Op.operands,XQ]at a;exact UR _ b (by simpa using a)
  ·cases h
 case makeSlice v l c=>
  obtain⟨e,k,h⟩:=ar h;obtain⟨K,b,h⟩:=ar h;obtain⟨z,d,h⟩:=ar h;obtain⟨ti,p,h⟩:=ar h;obtain⟨l',H,h⟩:=ar h;obtain⟨Q,C,h⟩:=ar h;split at h
  ·injection h with h;subst h
   simp only[Op.operands,Wd,Wz,Xu,aaQ]at a;simp only[AOp.reads,V6];rcases a with a|a
   ·exact .inl (dC H a.symm)
   ·exact .inr (dC C a.symm)
  ·cases h
 case slice v x lo hi mx=>
  obtain⟨e,k,h⟩:=ar h;obtain⟨z,b,h⟩:=ar h;obtain⟨j,d,h⟩:=ar h;obtain⟨Y,p,h⟩:=ar h;obtain⟨W,H,h⟩:=ar h;obtain⟨mx',C,h⟩:=ar h;split at h
  ·cases h
  ·injection h with h;subst h
   simp only[Op.operands,aaR,Wd,Wt]at a;simp only[AOp.reads,V6];have Z:∀{q:Option Operand},Operand.tmp t ∈ q.toList.toArray->q=some (.tmp t):=by
    intro q N;cases q with
    |none=>simp at N
    |some q=>simp at N;rw[N]
   rcases a with ((a|a)|a)|a
   ·exact .inl (.inl (.inl (dC d a.symm)))
   ·exact .inl (.inl (.inr (UQ p (by cases lo<;>simp_all))))
   ·exact .inl (.inr (UQ H (by cases hi<;>simp_all)))
   ·exact .inr (UQ C (by cases mx<;>simp_all))
 case fieldAddr s x f=>
  simp only[c7]at h;split at h
  ·obtain⟨S,k,h⟩:=ar h;obtain⟨z,b,h⟩:=ar h;obtain⟨j,d,h⟩:=ar h;split at h
   ·cases h
   ·injection h with h;subst h
    simp only[Op.operands,Wd,Wt]at a;exact dC d a.symm
  ·cases h
 case field v x f=>
  simp only[c7]at h;split at h
  ·obtain⟨S,k,h⟩:=ar h;obtain⟨P,b,h⟩:=ar h;obtain⟨z,d,h⟩:=ar h;obtain⟨j,p,rfl⟩:=aU h;simp only[Op.operands,Wd,Wt]at a;exact dC p a.symm
  ·cases h
 case indexAddr v x i=>
  simp only[Op.operands,Wd,Wz,Xu,aaQ]at a;simp only[c7]at h;split at h
  ·obtain⟨z,b,h⟩:=ar h;obtain⟨j,d,h⟩:=ar h;obtain⟨O,p,rfl⟩:=aU h;simp only[AOp.reads,V6];rcases a with a|a
   ·exact .inl (dC d a.symm)
   ·exact .inr (dC p a.symm)
  ·obtain⟨z,b,h⟩:=ar h;obtain⟨j,d,h⟩:=ar h;obtain⟨O,p,rfl⟩:=aU h;simp only[AOp.reads,V6];rcases a with a|a
   ·exact .inl (dC d a.symm)
   ·exact .inr (dC p a.symm)
  ·cases h
 case index v x i=>
  simp only[Op.operands,Wd,Wz,Xu,aaQ]at a;simp only[c7]at h;split at h
  ·obtain⟨P,k,h⟩:=ar h;obtain⟨z,b,h⟩:=ar h;obtain⟨j,d,h⟩:=ar h;obtain⟨O,p,rfl⟩:=aU h;simp only[AOp.reads,V6];rcases a with a|a
   ·exact .inl (dC d a.symm)
   ·exact .inr (dC p a.symm)
  ·obtain⟨j,d,h⟩:=ar h;obtain⟨O,p,rfl⟩:=aU h;simp only[AOp.reads,V6];rcases a with a|a
   ·exact .inl (dC d a.symm)
   ·exact .inr (dC p a.symm)
  ·cases h
 case extract x i=>
  obtain⟨j,d,rfl⟩:=aU h;simp only[Op.operands,Wd,Wt]at a;exact dC d a.symm
 case call c=>
  obtain⟨B,args,G⟩:=c;have A:∀{x y:Operand} {j w:X},args.toList=[x,y]->cX T x=some j->cX T y=some w->Operand.tmp t ∈ (#[]:Array Operand)++args->t ∈ j.reads++w.reads:=by
   intro x y j w n k b D;simp only[XQ]at D;rw[<-XY,n]at D;rw[V6];simp only[Wz,Xu,aaQ]at D;rcases D with D|D
   ·exact .inl (dC k D.symm)
   ·exact .inr (dC b D.symm)
  cases B
  case value f=>
   simp only[c7]at h;obtain⟨f',k,h⟩:=ar h;obtain⟨q,b,rfl⟩:=aU h;simp only[Op.operands,Call.operands,aaR,Wd,Wt]at a;simp only[AOp.reads,V6];rcases a with a|a
   ·exact .inl (dC k a.symm)
   ·exact .inr (UR _ b (by simpa using a))
  case invoke r m=>cases h
  case builtin bi=>
   simp only[Op.operands,Call.operands]at a;cases bi<;>simp only[c7]at h<;>try(cases h;done)
   case cap=>
    split at h
    ·rename_i x v n F;split at h
     ·obtain⟨j,d,rfl⟩:=aU h;simp only[XQ]at a;rw[<-XY,n,Wt]at a;exact dC d a.symm
     ·cases h
    ·cases h
   case len=>
    split at h
    ·rename_i x v n F;have one:∀{j:X},cX T x=some j->t ∈ j.reads:=by
      intro j k;simp only[XQ]at a;rw[<-XY,n,Wt]at a;exact dC k a.symm
     split at h
     ·obtain⟨j,d,rfl⟩:=aU h;exact one d
     ·obtain⟨j,d,rfl⟩:=aU h;exact one d
     ·obtain⟨j,d,rfl⟩:=aU h;exact one d
     ·cases h
    ·cases h
   case append=>
    split at h
    ·rename_i x y v u n F;split at h
     ·obtain⟨e,k,h⟩:=ar h;obtain⟨z,d,h⟩:=ar h;obtain⟨i,p,h⟩:=ar h;obtain⟨K,H,h⟩:=ar h;obtain⟨j,C,h⟩:=ar h;obtain⟨w,I,h⟩:=ar h;split at h
      ·injection h with h;subst h;exact A n C I a
      ·cases h
     obtain⟨e,k,h⟩:=ar h;obtain⟨e',b,h⟩:=ar h;obtain⟨z,d,h⟩:=ar h;obtain⟨i,p,h⟩:=ar h;obtain⟨K,H,h⟩:=ar h;obtain⟨j,C,h⟩:=ar h;obtain⟨w,I,h⟩:=ar h;split at h
     ·injection h with h;subst h;exact A n C I a
     ·cases h
    ·cases h
   case copy=>
    split at h
    ·rename_i x y v u n F;obtain⟨e,k,h⟩:=ar h;obtain⟨z,d,h⟩:=ar h;obtain⟨j,C,h⟩:=ar h;obtain⟨w,I,h⟩:=ar h;split at h
     ·injection h with h;subst h;exact A n C I a
     ·cases h
    ·cases h
   case min=>
    split at h
    ·rename_i x y n;obtain⟨j,k,h⟩:=ar h;obtain⟨w,b,rfl⟩:=aU h;exact A n k b a
    ·cases h
   case max=>
    split at h
    ·rename_i x y n;obtain⟨j,k,h⟩:=ar h;obtain⟨w,b,rfl⟩:=aU h;exact A n k b a
    ·rename_i x y z n;obtain⟨j,k,h⟩:=ar h;obtain⟨w,b,h⟩:=ar h;obtain⟨z',d,rfl⟩:=aU h;have E:args=#[x,y,z]:=by cases args;simp at n;simp[n]
     subst E;simp only[aaR,Wd]at a;simp only[AOp.reads,V6];simp at a;rcases a with rfl|rfl|rfl
     ·exact .inl (.inl (dC k rfl))
     ·exact .inl (.inr (dC b rfl))
     ·exact .inr (dC d rfl)
    ·cases h
 all_goals(cases h)
theorem i5 {E a:aA}{x:X}(h:∀t ∈ x.reads,E t=a t):am E x=am a x:=by
 cases x with
 |t i=>exact h i (by simp[X.reads])
 |c v=>rfl
 |f g=>rfl
theorem RE {E b:aA}{a:List X}(h:∀t ∈ a.flatMap X.reads,E t=b t):a.map (am E)=a.map (am b):=by
 apply Yf;intro x d;exact i5 fun t c=>h t (List.mem_flatMap.2 ⟨x,d,c⟩)
theorem EA {E a:aA}{d:Nat}{x:Option X}(h:∀t ∈ OX.reads x,E t=a t):d9 E d x=d9 a d x:=by
 cases x with
 |none=>rfl
 |some x=>simp only[d9,i5 h]
theorem A5 {n0:Nat}{op:AOp}{E e:aA}{H:ab}(m:∀z a x i,op≠.storeN z a x i)(h:∀t ∈ op.reads,E t=e t):aS n0 op E H=aS n0 op e H:=by
 cases op<;>simp only[AOp.reads,V6]at h<;>simp only[aS]
 case pick c x y=>rw[i5 (x:=c) fun t b=>h t (.inl (.inl b)),i5 (x:=x) fun t b=>h t (.inl (.inr b)),i5 (x:=y) fun t b=>h t (.inr b)]
 case slice z x lo hi mx=>
  rw[i5 (x:=x) fun t b=>h t (.inl (.inl (.inl b)))];have j:∀d,d9 E d lo=d9 e d lo:=fun d=>EA fun t b=>h t (.inl (.inl (.inr b)))
  have k:∀d,d9 E d hi=d9 e d hi:=fun d=>EA fun t b=>h t (.inl (.inr b))
  have l:∀d,d9 E d mx=d9 e d mx:=fun d=>EA fun t b=>h t (.inr b)
  simp only[j,k,l]
 case build zero ps=>
  have:(ps.map fun p=>(p.1,p.2.1,am E p.2.2))=ps.map fun p=>(p.1,p.2.1,am e p.2.2):=Yf fun p f=>by
   rw[i5 fun t b=>h t (List.mem_flatMap.2 ⟨p,f,b⟩)]
  rw[this]
 case bslice z len zero ps=>
  have:(ps.map fun p=>am E p.2)=ps.map fun p=>am e p.2:=Yf fun p f=>by
   rw[i5 fun t b=>h t (List.mem_flatMap.2 ⟨p,f,b⟩)]
  rw[this]
 case plit z len zero ps=>
  have:(ps.map fun p=>am E p.2)=ps.map fun p=>am e p.2:=Yf fun p f=>by
   rw[i5 fun t b=>h t (List.mem_flatMap.2 ⟨p,f,b⟩)]
  rw[this]
 case max3 x y z=>rw[i5 (x:=x) fun t b=>h t (.inl (.inl b)),i5 (x:=y) fun t b=>h t (.inl (.inr b)),i5 (x:=z) fun t b=>h t (.inr b)]
 case mkfn g cs=>rw[RE h]
 case sload ag z t=>rw[h t (by simp)]
 case storeN z x y i=>exact absurd rfl (m z x y i)
 all_goals first
  |rfl
  | (rename_i x;rw[i5 (x:=x) h];done)
  | (rename_i x y;rw[i5 (x:=x) fun t b=>h t (.inl b),i5 (x:=y) fun t b=>h t (.inr b)];done)
  | (rename_i x y;simp only[i5 (x:=x) fun t b=>h t (.inl b),i5 (x:=y) fun t b=>h t (.inr b)];done)
end Go.Abs
namespace Go.Abs
variable {T : Tab} {w : World} {M : Nat → Prop} {μ : bp} {H : ab}
def nK (gid:Gid)(w:World)(M:Nat->Prop)(μ:bp)(l:List Nat)(tmps:Array Value)(E:aA):Prop:=∀t ∈ l,R gid w M μ (tmps.getD t Go.undef) (E t)
def d4 (T:Tab)(n0:Nat)(o:Oper)(reads:List Nat)(E:aA)(H:ab)(v:V)(H1:ab):Prop:=
 ∀(a:Act) (w:World) (M:Nat->Prop) (μ:bp) (K:Act->World->Prop) (Q:Exit->Act->World->Prop),n0<=H.length->Sim T.gid w M μ H->nK T.gid w M μ reads a.tmps E ->
  (∀v' w' M' μ',Step T.gid n0 w M μ H w' M' μ' H1->R T.gid w' M' μ' v' v->K (a.put o.dst v') w')->o.wp T.P a w K Q
def fA (l:List Nat)(tmps:Array Value):Array Value:=tmps.mapIdx fun t v=>if t ∈ l then v else Go.undef
def fB (l:List Nat)(E:aA):aA:=fun t=>if t ∈ l then E t else .undef
theorem Bg (l:List Nat)(tmps:Array Value)(t:Nat):(fA l tmps).getD t Go.undef=if t ∈ l then tmps.getD t Go.undef else Go.undef:=by
 unfold fA;simp only[VS,Array.getElem?_mapIdx];cases tmps[t]? with
 |none=>simp
 |some v=>simp
theorem UC {l:List Nat}{tmps:Array Value}{E:aA}(h:nK T.gid w M μ l tmps E):ERel T.gid w M μ (fA l tmps) (fB l E):=by
 intro t;rw[Bg];unfold fB;split
 ·exact h t (by assumption)
 ·exact R.undef
theorem Ve {o:Oper}{op:AOp}{l:List Nat}(c:c7 T o.op=some op)(d:∀t ∈ op.reads,t ∈ l)(a:Act):execOp a.eval o=execOp (Act.eval { a with tmps:=fA l a.tmps }) o:=by
 refine execOp_congr o (fun cs b e=>by rw[e]at c;cases c) fun x f=>?_
 cases x with
 |tmp t=>
  show a.tmps.getD t Go.undef=(fA l a.tmps).getD t Go.undef;rw[Bg,Vh (d t (OO c f))]
 |_=>rfl
inductive Soft : AOp->AOp->Prop
 |refl (op:AOp):Soft op op
 |load (ag:Bool) (z t:Nat):Soft (.sload ag z t) (.load ag z (.t t))
 |store (z:Nat) (a x:X) (av:List Nat):Soft (.storeN z a x av) (.store z a x)
 |lit {z len:Nat} {zero:V} {parts:List (Nat × X)} {els:List V} (h:ja (.bslice z len zero parts)=some els):Soft (.mv (.c (.sl els))) (.bslice z len zero parts)
 |plit (z len:Nat) (zero:V) (parts:List (Nat × X)):Soft (.plit z len zero parts) (.bslice z len zero parts)
theorem xF {H:ab}{E:aA}:∀(ps:List (Nat × X)),(ps.all fun p=>lO p.2)=true->gM H (ps.map fun p=>am E p.2)=some (ps.map fun p=>am (fun _=>.undef) p.2,H)
 | [],_=>rfl
 | (i,x) :: ps,h=>by
  simp only[Yi,VA]at h;have a:=xF (H:=H) (E:=E) ps h.2;obtain⟨k,n,rfl⟩:∃k n,x=.c (.int k n):=by
   have:=h.1;unfold lO at this;split at this
   ·exact⟨_,_,rfl⟩
   ·cases this
  simp only[aaM,gM];rw[show d6 H (am E (.c (.int k n)))=some (.int k n,H) from rfl];simp only[V3];rw[a];rfl
theorem AK : ∀(ps:List (Nat × X)),(ps.all fun p=>lO p.2)=true->(ps.flatMap fun p=>p.2.reads)=[]
 | [],_=>rfl
 | (i,x) :: ps,h=>by
  simp only[Yi,VA]at h;obtain⟨k,n,rfl⟩:∃k n,x=.c (.int k n):=by
   have:=h.1;unfold lO at this;split at this
   ·exact⟨_,_,rfl⟩
   ·cases this
  rw[Xp,AK ps h.2];rfl
theorem z9 {b c d:Type}(f:b->c)(g:b->d):∀l:List b,(l.map f).zip (l.map g)=l.map fun p=>(f p,g p)
 | []=>rfl
 |a :: l=>by simp[z9 f g l]
theorem xJ {n0 z len:Nat}{zero:V}{a:List (Nat × X)}{b:List V}(h:ja (.bslice z len zero a)=some b)(E:aA)(H:ab) :
 (AOp.bslice z len zero a).reads=[]/\∃el,0+len<=el.length/\b=(el.drop 0).take len/\aS n0 (.bslice z len zero a) E H=some (.ref H.length z 0 len,H++[some ⟨z,el,true,true⟩]):=by
 simp only[ja]at h;split at h
 ·rename_i d;obtain⟨el,e,c⟩:=ar h;split at c
  ·rename_i f;injection c with c
   refine⟨AK a d.2,el,f,c.symm,?_⟩;simp only[aS];rw[Vh d.1,xF a d.2];simp only[V3];rw[z9,e];rfl
  ·cases c
 ·cases h
theorem Soft.same {n0:Nat}{op c:AOp}(h:Soft op c)(g:∀z len zero d,c=.bslice z len zero d->op=c){E:aA}{v:V}{H1:ab}(e:aS n0 op E H=some (v,H1)):aS n0 c E H=some (v,H1):=by
 cases h with
 |refl=>exact e
 |load m z t=>
  simp only[aS,am]at e ⊢;split at e
  ·rename_i cs l;exact e
  ·rename_i b i off l;split at e
   ·rename_i k p;split at e
    ·rename_i el o;obtain⟨u,j,f⟩:=ar e;split at f
     ·simp only[j,WX];exact f
     ·cases f
    ·cases e
   ·cases e
  ·cases e
 |store z a x n=>
  simp only[aS]at e ⊢;split at e
  ·exact e
  ·cases e
 |lit q=>exact absurd (g _ _ _ _ rfl) (by simp)
 |plit=>exact absurd (g _ _ _ _ rfl) (by simp)
theorem Soft.reads {op c:AOp}(h:Soft op c):∀t ∈ c.reads,t ∈ op.reads:=by
 cases h with
 |refl=>exact fun t b=>b
 |load e z t=>exact fun t b=>b
 |store z a x f=>exact fun t b=>by simp only[AOp.reads,V6]at b ⊢;exact b
 |lit d=>exact fun t b=>by rw[(xJ (n0:=0) d (fun _=>.undef) []).1]at b;exact absurd b (by simp)
 |plit=>exact fun t b=>b
theorem Yz {o:Op}(d:Bool)(z t:Nat):¬c7 T o=some (.sload d z t):=by
 intro h;cases o
 case call c=>
  obtain⟨a,args,b⟩:=c;cases a
  case value f=>simp[c7,Vz]at h
  case invoke=>simp[c7]at h
  case builtin bi=>
   cases bi<;>simp only[c7]at h<;>(repeat' split at h)<;>simp[Vz]at h
 all_goals simp only[c7]at h
 all_goals(repeat' split at h)
 all_goals(try(simp[Vz]at h;done))
 all_goals(try(cases h;done))
theorem q9j {o:Op}(z:Nat)(a x:X)(e:List Nat):¬c7 T o=some (.storeN z a x e):=by
 intro h;cases o
 case call c=>
  obtain⟨b,args,d⟩:=c;cases b
  case value f=>simp[c7,Vz]at h
  case invoke=>simp[c7]at h
  case builtin bi=>
   cases bi<;>simp only[c7]at h<;>(repeat' split at h)<;>simp[Vz]at h
 all_goals simp only[c7]at h
 all_goals(repeat' split at h)
 all_goals(try(simp[Vz]at h;done))
 all_goals(try(cases h;done))
theorem Pv {n0:Nat}{o:Oper}{z len:Nat}{zero:V}{b:List (Nat × X)}{d:List V}(g:c7 T o.op=some (.bslice z len zero b))(D:ja (.bslice z len zero b)=some d){E:aA}:d4 T n0 o (AOp.mv (.c (.sl d))).reads E H (.sl d) H:=by
 intro a w M μ K Q F v B u;obtain⟨q,el,p,rfl,A⟩:=xJ (n0:=H.length) D (fB (AOp.mv (.c (.sl d))).reads E) H;obtain⟨G,s,J,I,i,k,j⟩:=Va g (Vo _) v (a:={ a with tmps:=fA (AOp.mv (.c (.sl ((el.drop 0).take len)))).reads a.tmps }) (UC B) A;have C:aF (H++[some ⟨z,el,true,true⟩]) (.ref H.length z 0 len)=some (.sl ((el.drop 0).take len),(H++[some (Blk.mk z el true true)]).set H.length (some (Blk.mk z el true false))):=by
  simp only[aF,bm,VD (Vo H.length),aau,Yq];rw[Vh ⟨trivial,trivial,p⟩];rfl
 obtain⟨m,r,y,_⟩:=Cv (n0:=H.length) k.sim C j;obtain⟨c,f⟩:=Step.take (k.trans r) rfl (v.lowH (Vo _));have e:(((H++[some (Blk.mk z el true true)]).set H.length (some (Blk.mk z el true false))).take H.length)=H:=by simp
 rw[e]at f;have l:Step T.gid n0 w M μ H s m c H:={ f with low:=fun n h=>f.low n (Vp h F) }
 unfold Oper.wp;rw[Ve g (fun t x=>by rw[q]at x;exact absurd x (by simp)) a];rcases i with i|⟨i,hv⟩
 ·rw[i];exact u G s m c l (y.pureAny rfl c)
 ·rw[i];subst hv;exact u _ s m c l (y.pureAny rfl c)
theorem Uu {c a:V}{H1:ab}(h:bm [] c=some (a,H1))(H:ab):H1=[]/\bm H c=some (a,H):=by
 cases c<;>simp only[bm]at h ⊢<;>first
  | (cases h;done)
  | (injection h with h;injection h with b d;exact⟨d.symm,by rw[b]⟩)
  | (simp at h)
theorem AI : ∀{cs a:List V} {H1:ab},cq [] cs=some (a,H1)->∀H:ab,H1=[]/\cq H cs=some (a,H)
 | [],a,H1,h,H=>by simp only[cq]at h ⊢;injection h with h;injection h with d e;exact⟨e.symm,by rw[d]⟩
 |c :: cs,a,H1,h,H=>by
  simp only[cq]at h ⊢;obtain⟨⟨o,m⟩,d,k⟩:=ar h;obtain⟨i,f⟩:=Uu d H;subst i;obtain⟨⟨p,n⟩,e,b⟩:=ar k;obtain⟨j,g⟩:=AI e H;subst j;injection b with b;injection b with b l
  refine⟨l.symm,?_⟩;rw[f];simp only[V3];rw[g];simp only[V3];rw[b]
theorem Z9 {v v':V}{H1:ab}(h:d6 [] v=some (v',H1))(H:ab):H1=[]/\d6 H v=some (v',H):=by
 unfold d6 at h ⊢;obtain⟨⟨u,d⟩,a,h⟩:=ar h;have c:d=[]/\aF H v=some (u,H):=by
  cases v with
  |agg cs=>
   simp only[aF]at a ⊢;obtain⟨⟨f,m⟩,j,a⟩:=ar a;obtain⟨e,g⟩:=AI j H;injection a with a;injection a with a b
   exact⟨by rw[<-b,e],by rw[g,<-a];rfl⟩
  |_=>simp only[aF]at a ⊢;exact Uu a H
 obtain⟨i,e⟩:=c;rw[e];simp only[V3]at h ⊢;split at h
 ·rename_i l;injection h with h;injection h with b k
  rw[Vh l,b];exact⟨by rw[<-k,i],rfl⟩
 ·cases h
theorem q00 : ∀{vs a:List V} {H1:ab},gM [] vs=some (a,H1)->∀H:ab,H1=[]/\gM H vs=some (a,H)
 | [],a,H1,h,H=>by simp only[gM]at h ⊢;injection h with h;injection h with d e;exact⟨e.symm,by rw[d]⟩
 |c :: cs,a,H1,h,H=>by
  simp only[gM]at h ⊢;obtain⟨⟨o,m⟩,d,k⟩:=ar h;obtain⟨i,f⟩:=Z9 d H;subst i;obtain⟨⟨p,n⟩,e,b⟩:=ar k;obtain⟨j,g⟩:=q00 e H;subst j;injection b with b;injection b with b l
  refine⟨l.symm,?_⟩;rw[f];simp only[V3];rw[g];simp only[V3];rw[b]
theorem UE {n0 z len:Nat}{zero:V}{a:List (Nat × X)}{E:aA}{H H1:ab}{v:V}(h:aS n0 (.plit z len zero a) E H=some (v,H1)) :
 H1=H/\∃el,0+len<=el.length/\v=.sl ((el.drop 0).take len)/\∀b,aS n0 (.bslice z len zero a) E b=some (.ref b.length z 0 len,b++[some ⟨z,el,true,true⟩]):=by
 simp only[aS]at h;split at h
 ·rename_i g;obtain⟨⟨k,j⟩,d,h⟩:=ar h;obtain⟨el,c,h⟩:=ar h;split at h
  ·rename_i i;injection h with h;injection h with e f
   refine⟨f.symm,el,i,e.symm,fun b=>?_⟩;simp only[aS];rw[Vh g,(q00 d b).2];simp only[V3];simp only at c;rw[c];rfl
  ·cases h
 ·cases h
theorem Qy {n0:Nat}{o:Oper}{z len:Nat}{zero:V}{b:List (Nat × X)}(f:c7 T o.op=some (.bslice z len zero b)){E:aA}{y H1:ab}{v:V}(h:aS n0 (.plit z len zero b) E y=some (v,H1))(H:ab):d4 T n0 o (AOp.plit z len zero b).reads E H v H:=by
 intro a w M μ K Q J B G A;have D:aS n0 (.plit z len zero b) (fB (AOp.plit z len zero b).reads E) y=some (v,H1):=by
  rw[<-h];exact A5 (fun z a x P e=>by cases e) fun t r=>by unfold fB;rw[Vh r]
 obtain⟨_,el,q,rfl,p⟩:=UE D;have p:=p H;have F:aS H.length (.bslice z len zero b) (fB (AOp.plit z len zero b).reads E) H=some (.ref H.length z 0 len,H++[some ⟨z,el,true,true⟩]):=p;obtain⟨L,u,O,N,g,j,i⟩:=Va f (Vo _) B (a:={ a with tmps:=fA (AOp.plit z len zero b).reads a.tmps }) (UC G) F;have I:aF (H++[some ⟨z,el,true,true⟩]) (.ref H.length z 0 len)=some (.sl ((el.drop 0).take len),(H++[some (Blk.mk z el true true)]).set H.length (some (Blk.mk z el true false))):=by
  simp only[aF,bm,VD (Vo H.length),aau,Yq];rw[Vh ⟨trivial,trivial,q⟩];rfl
 obtain⟨m,s,C,_⟩:=Cv (n0:=H.length) j.sim I i;obtain⟨c,d⟩:=Step.take (j.trans s) rfl (B.lowH (Vo _));have e:(((H++[some (Blk.mk z el true true)]).set H.length (some (Blk.mk z el true false))).take H.length)=H:=by simp
 rw[e]at d;have k:Step T.gid n0 w M μ H u m c H:={ d with low:=fun n h=>d.low n (Vp h J) }
 unfold Oper.wp;rw[Ve (l:=(AOp.plit z len zero b).reads) f (fun t r=>r) a];rcases g with g|⟨g,hv⟩
 ·rw[g];exact A L u m c k (C.pureAny rfl c)
 ·rw[g];subst hv;exact A _ u m c k (C.pureAny rfl c)
theorem Cr {n0:Nat}{o:Oper}{op d:AOp}(c:c7 T o.op=some d)(b:Soft op d){E:aA}{v:V}{H1:ab}(h:aS n0 op E H=some (v,H1)):d4 T n0 o op.reads E H v H1:=by
 by_cases l:∀z len zero f,d=.bslice z len zero f->op=d
 case neg=>
  cases b with
  |lit y=>
   simp only[aS,am]at h;injection h with h;injection h with s m
   subst s;subst m;exact Pv c y
  |plit z len zero f=>
   have e:=(UE h).1;subst e;exact Qy c h _
  |refl=>exact absurd (fun _ _ _ _ _=>rfl) l
  |load=>exact absurd (fun _ _ _ _ e=>by cases e) l
  |store=>exact absurd (fun _ _ _ _ e=>by cases e) l
 intro a w M μ K Q A B u p;have m:aS n0 d (fB op.reads E) H=some (v,H1):=by
  rw[<-b.same l h];exact A5 (fun z a x r e=>q9j z a x r (by rw[<-e];exact c)) fun t C=>by unfold fB;rw[Vh (b.reads t C)]
 obtain⟨D,q,n,k,i,j,g⟩:=Va c A B (a:={ a with tmps:=fA op.reads a.tmps }) (UC u) m;unfold Oper.wp;rw[Ve c b.reads a];rcases i with i|⟨i,hv⟩
 ·rw[i];exact p D q n k j g
 ·rw[i];subst hv;exact p _ q n k j g
def si (T:Tab)(n0:Nat)(o:Oper)(op:AOp)(E:aA)(H:ab)(v:V):Prop:=
 ∃ag z t b i off,op=.sload ag z t/\E t=.ptr b i off/\b<H.length/\(∃k,H[b]?=some (some k))/\v.isTup=false/\(∀c ∈ v.cells,V.lowB H.length c=true)/\∀Hc:ab,Hc[b]?=H[b]?->d4 T n0 o op.reads E Hc v Hc
theorem RJ {n0:Nat}{o:Oper}{e:Bool}{z t:Nat}{g:AOp}(f:c7 T o.op=some g)(d:Soft (.sload e z t) g){E:aA}{v:V}{H1:ab}(h:aS n0 (.sload e z t) E H=some (v,H1)) :
 H1=H/\(si T n0 o (.sload e z t) E H v\/∀j,d4 T n0 o (AOp.sload e z t).reads E j v j):=by
 have y:=h;simp only[aS]at h;split at h
 ·rename_i cs l;obtain⟨u,m,a⟩:=aU h;injection a with a n
  subst a;subst n;refine⟨rfl,.inr fun j=>?_⟩;cases d with
  |refl=>exact absurd f (Yz e z t)
  |load=>exact Cr (op:=.load e z (.t t)) f (.refl _) (by simp only[aS,am,l,m,WX])
 ·rename_i b i off l;split at h
  ·rename_i k q;split at h
   ·rename_i el x;obtain⟨u,m,a⟩:=ar h;split at a
    ·rename_i r;injection a with a;injection a with a n
     subst a;subst n;refine⟨rfl,.inl ⟨e,z,t,b,i,off,rfl,l,(Vi.1 q).1,⟨_,q⟩,r.2,fun c p=>VU.1 r.1 c p,fun j s=>?_⟩⟩;cases d with
     |refl=>exact absurd f (Yz e z t)
     |load=>
      refine Cr (op:=.load e z (.t t)) f (.refl _) ?_;simp only[aS,am,l,s,q,x,m,WX]
    ·cases a
   ·cases h
  ·cases h
 ·cases h
theorem AW {H:ab}{c a:V}{H1:ab}(b:c.cellPure=true)(h:bm H c=some (a,H1)):H1=H:=by
 cases c<;>simp only[bm]at h<;>first
  | (cases b;done)
  | (injection h with h;injection h with _ h;exact h.symm)
theorem Z3 {H:ab}:∀{cs a:List V} {H1:ab},cs.all V.cellPure=true->cq H cs=some (a,H1)->H1=H
 | [],a,H1,_,h=>by simp only[cq]at h;injection h with h;injection h with _ h;exact h.symm
 |c :: cs,a,H1,d,h=>by
  simp only[Yi,VA]at d;simp only[cq]at h;obtain⟨⟨m,k⟩,g,j⟩:=ar h;obtain⟨⟨n,l⟩,i,b⟩:=ar j;injection b with b;injection b with _ b
  have e:=AW d.1 g;have f:=Z3 d.2 i;rw[<-b,f,e]
theorem Rt {H:ab}{v v':V}{H1:ab}(b:v.pure=true)(h:d6 H v=some (v',H1)):H1=H:=by
 unfold d6 at h;obtain⟨⟨u,e⟩,a,h⟩:=ar h;simp only at h;split at h
 ·injection h with h;injection h with _ h
  subst h;cases v with
  |agg cs=>
   simp only[aF]at a;obtain⟨⟨c,f⟩,d,a⟩:=ar a;injection a with a;injection a with _ a
   subst a;exact Z3 b d
  |_=>
   simp only[aF]at a;exact AW (by simpa[V.pure,V.cells]using b) a
 ·cases h
theorem q64 {n0:Nat}{z:Nat}{x y:X}{j:List Nat}{E:aA}{v:V}{H1:ab}(h:aS n0 (.storeN z x y j) E H=some (v,H1)){t b i off:Nat}(r:t ∈ j)(p:E t=.ptr b i off):H1[b]?=H[b]?:=by
 simp only[aS]at h;split at h
 ·rename_i l;have c:=VU.1 l.2 t r;rw[p]at c;unfold nd at h;split at h
  ·rename_i o A m q;rw[q]at c;have g:o≠b:=by
    simp only[dx,bne_iff_ne,ne_eq]at c;exact fun e=>c e.symm
   split at h
   ·rename_i k s;split at h
    ·obtain⟨⟨u,n⟩,d,a⟩:=ar h;have f:n=H:=by
      split at d
      ·exact Rt l.1 d
      ·injection d with d;injection d with _ d;exact d.symm
     subst f;simp only at a;split at a
     ·split at a
      ·split at a
       ·injection a with a;injection a with _ a
        rw[<-a,Wc g]
       ·cases a
      ·cases a
     ·cases a
    ·cases h
   ·cases h
  ·cases h
 ·cases h
theorem RK {n0 z bytes:Nat}{x y:X}{E:aA}{v:V}{H1:ab}(h:aS n0 (.append z bytes x y) E H=some (v,H1)){b:Nat}{k:Blk}(e:b<H.length)(d:H1[b]?=some (some k)):H[b]?=some (some k):=by
 have g:∀{c:Nat} {X:ab},(H.set c none++X)[b]?=some (some k)->H[b]?=some (some k):=by
  intro c X h;rw[Vr (by simpa using e)]at h;rcases Nat.decEq c b with f|f
  ·rwa[Wc f]at h
  ·subst f;rw[Wk e]at h;cases h
 have a:∀{X:ab},(H++X)[b]?=some (some k)->H[b]?=some (some k):=fun h=>by rwa[Vr e]at h
 simp only[aS]at h;obtain⟨j,i,h⟩:=ar h;split at h
 ·split at h
  ·split at h
   ·injection h with h;injection h with _ h;rw[h];exact d
   ·split at h
    ·injection h with h;injection h with _ h;subst h;exact a d
    ·cases h
  ·split at h
   ·split at h
    ·split at h
     ·injection h with h;injection h with _ h;rw[h];exact d
     ·injection h with h;injection h with _ h;subst h;exact g d
    ·cases h
   ·cases h
  ·cases h
 ·cases h
theorem A6 {n0:Nat}{op:AOp}(f:op.loud=false)(o:∀d z t,op≠.sload d z t){E:aA}{v:V}{H1:ab}(h:aS n0 op E H=some (v,H1)):H1=H/\∀c,aS n0 op E c=some (v,c):=by
 cases op<;>try(cases f;done)
 case sload d z t=>exact absurd rfl (o d z t)
 case plit z len zero parts=>
  obtain⟨e,el,b,a,g⟩:=UE h;refine⟨e,fun c=>?_⟩;simp only[aS]at h ⊢;split at h
  ·rename_i n;rw[Vh n];obtain⟨q,k,h⟩:=ar h;obtain⟨j,l,h⟩:=ar h;split at h
   ·rename_i f;injection h with h;injection h with m _
    rw[k];simp only[V3];rw[l];simp only[V3];rw[Vh f,m]
   ·cases h
  ·cases h
 case max3 x y z=>
  simp only[aS]at h ⊢;split at h
  ·rename_i p r s;split at h
   ·rename_i i;injection h with h;injection h with b a
    subst b;subst a;exact⟨rfl,fun _=>by rw[Vh i]⟩
   ·cases h
  ·cases h
 all_goals simp only[aS]at h ⊢
 all_goals try(split at h<;>try(cases h;done))
 all_goals try(split at h<;>try(cases h;done))
 all_goals try(split at h<;>try(cases h;done))
 all_goals first
  | (injection h with h;injection h with b a;subst b;subst a;exact⟨rfl,fun _=>by first| (simp_all;done)| (simp_all;intros;omega)⟩)
  | (obtain⟨q,b,a⟩:=aU h
     injection a with a g
     subst a;subst g;exact⟨rfl,fun _=>by simp_all⟩)
  | (cases h;done)
structure Link (T:Tab)(ops:Array Oper)(o:Oper)(ao:AOper):Prop where
 dst:o.dst=ao.dst
 op:∃op0,c7 T o.op=some op0/\Soft ao.op op0
 guard:(o.guard=none/\ao.guard=none)\/∃j want t,o.guard=some (j,want)/\(ops[j]?).bind (·.dst)=some t/\ao.guard=some (t,want)
theorem ZP {ops:Array Oper}{o:Oper}{c:AOper}(h:j3 T ops o=some c)(s:Bool){op:AOp}(a:Soft op c.op):Link T ops o { c with sync:=s,op:=op }:=by
 unfold j3 at h;obtain⟨op,e,h⟩:=ar h;split at h
 ·rename_i d;injection h with h;subst h
  exact⟨rfl,⟨_,e,a⟩,.inl ⟨d,rfl⟩⟩
 ·rename_i j b d;obtain⟨t,f,g⟩:=aU h;subst g;exact⟨rfl,⟨_,e,a⟩,.inr ⟨j,b,t,d,f,rfl⟩⟩
theorem Vc {ops:Array Oper}{o:Oper}{k:AOper}(u:Link T ops o k){a:Act}{E:aA}(r:∀t,(∃d,k.guard=some (t,d))->R T.gid w M μ (a.tmps.getD t Go.undef) (E t)){b:Bool}(h:gd k E=some b) :
 Region.wanted o (yielded ops a.tmps)=b:=by
 rcases u.guard with ⟨f,g⟩|⟨j,d,t,f,g,l⟩
 ·simp only[gd,g]at h;injection h with h
  subst h;simp[Region.wanted,f]
 ·simp only[gd,l]at h;split at h
  ·rename_i q m;have e:=r t ⟨d,l⟩;rw[m]at e;have hv:=e.inv_bool;injection h with h
   subst h;have n:a.tmps[t]?=some (.bool q):=by
    rw[VS]at hv;cases i:a.tmps[t]? with
    |none=>rw[i]at hv;cases hv
    |some x=>rw[i]at hv;simp at hv;rw[hv]
   simp only[Region.wanted,f,yielded,g,V3,n];cases q<;>cases d<;>rfl
  ·rename_i q m;have e:=r t ⟨d,l⟩;rw[m]at e;injection h with h
   subst h;have n:∀b:Bool,a.tmps[t]?≠some (.bool b):=by
    intro b s;rw[VS,s]at e;cases e with
    |c e=>cases e with|p e=>cases e
   simp only[Region.wanted,f,yielded,g,V3];cases i:a.tmps[t]? with
   |none=>rfl
   |some x=>
    cases x with
    |bool b=>exact absurd i (n b)
    |_=>rfl
  ·cases h
inductive Tr (T:Tab)(n0:Nat)(d:Bool)(ops:Array Oper):List Oper->List AOper->aA->ab->aA->ab->Prop
 |nil {E H}:Tr T n0 d ops [] [] E H E H
 |skip {o ao os aos E H E' H'} (hl:Link T ops o ao) (hg:gd ao E=some false) (rest:Tr T n0 d ops os aos (put E ao.dst .undef) H E' H'):Tr T n0 d ops (o :: os) (ao :: aos) E H E' H'
 |step {o ao os aos E H v H1 E' H'} (hl:Link T ops o ao) (hg:gd ao E=some true) (sem:d4 T n0 o ao.op.reads E H v H1) (len:H.length<=H1.length) (pre:d=true->ao.sync=false->H <+: H1)
  (quiet:ao.op.loud=false->H1=H/\((∀Hc,d4 T n0 o ao.op.reads E Hc v Hc)\/si T n0 o ao.op E H v))
  (spare:∀z x y av,ao.op=.storeN z x y av->∀t ∈ av,∀b i off,E t=.ptr b i off->H1[b]?=H[b]?)
  (kills:eY ao.op=true->∀(b:Nat) (k:Blk),b<H.length->H1[b]?=some (some k)->H[b]?=some (some k)) (rest:Tr T n0 d ops os aos (put E ao.dst v) H1 E' H'):Tr T n0 d ops (o :: os) (ao :: aos) E H E' H'
theorem ERel.put {tmps:Array Value}{E:aA}(h:ERel T.gid w M μ tmps E){dst:Option Nat}(f:∀d,dst=some d->d<tmps.size){v:Value}{c:V}(g:R T.gid w M μ v c)(b:List Deferred) :
 ERel T.gid w M μ (Act.put { tmps:=tmps,defers:=b } dst v).tmps (put E dst c):=by
 cases dst with
 |none=>exact h
 |some d=>
  intro t;simp only[Act.put,_root_.Go.Abs.put,iL];by_cases a:t=d
  ·subst a;rw[Vh rfl,VS,WJ,Vh rfl,Vh (f t rfl)];exact g
  ·rw[Vk a,VS,WJ,Vk (fun e=>a e.symm),<-VS];exact h t
theorem lC (a:Act)(dst:Option Nat)(v:Value):(a.put dst v).tmps.size=a.tmps.size:=by cases dst<;>simp[Act.put]
theorem nH (a:Act)(dst:Option Nat)(v:Value):(a.put dst v).defers=a.defers:=by cases dst<;>rfl
theorem Tr.plain {n0:Nat}{d:Bool}{ops:Array Oper}{l:List Oper}{al:List AOper}{E:aA}{H:ab}{A:aA}{B:ab}(h:Tr T n0 d ops l al E H A B) :
 ∀(k:Nat) (_:ops.toList.drop k=l) (n:Nat) (_:pk n al=true) (a:Act) (w:World) (M:Nat->Prop) (μ:bp) (_:n<=a.tmps.size) (_:n0<=H.length) (_:Sim T.gid w M μ H) (_:ERel T.gid w M μ a.tmps E) (_:a.defers=[])
  (Q:Exit->Act->World->Prop) (_:∀e q r c,Step T.gid n0 w M μ H q r c B->ERel T.gid q r c e.tmps A->e.defers=[]->e.tmps.size=a.tmps.size->Q .normal e q),
  wpOps T.P ops Q (List.range' k l.length) a w:=by
 induction h with
 |nil=>intro k _ n _ a w M μ _ _ s f x Q u;exact u a w M μ (.refl s) f x rfl
 | @skip o U os C E H A B z D _ J=>
  intro k y n b a w M μ F m s f x Q u;have G:ops[k]?=some o:=by
   have:=W2 (·[0]?) y;simpa[Ws]using this
  have I:=Vc (w:=w) (M:=M) (μ:=μ) z (fun t _=>f t) D;simp only[pk,Yi,VA]at b;rw[Xh,List.range'_succ];simp only[wpOps,G,I,Vv,V8];refine J (k+1) (by rw[<-Wj];simp[y]) n b.2 _ w M μ (by rw[lC];exact F) m s ?_ (by rw[nH];exact x) Q (fun e q r c st g i p=>u e q r c st g i (by rw[p,lC]));rw[z.dst];exact ERel.put f (fun W j=>by rw[j]at b;have:=b.1;simp at this;omega) R.undef a.defers
 | @step o U os C E H v H1 A B z D L len pre quiet N K _ J=>
  intro k y n b a w M μ F m s f x Q u;have G:ops[k]?=some o:=by
   have:=W2 (·[0]?) y;simpa[Ws]using this
  have I:=Vc (w:=w) (M:=M) (μ:=μ) z (fun t _=>f t) D;simp only[pk,Yi,VA]at b;rw[Xh,List.range'_succ];simp only[wpOps,G,I,Wm];refine .inl (L a w M μ _ Q m s (fun t _=>f t) fun v' q r c st Y=>?_);refine J (k+1) (by rw[<-Wj];simp[y]) n b.2 _ q r c (by rw[lC];exact F) (by omega) st.sim ?_ (by rw[nH];exact x) Q
   (fun e Z S P O g i p=>u e Z S P (st.trans O) g i (by rw[p,lC]))
  rw[z.dst];exact ERel.put (fun t=>st.r s (f t)) (fun W j=>by rw[j]at b;have:=b.1;simp at this;omega) Y a.defers
