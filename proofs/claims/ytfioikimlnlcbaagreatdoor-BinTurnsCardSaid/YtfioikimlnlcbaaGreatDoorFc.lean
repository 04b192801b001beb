/- Parts of the proof: FpRel, FpSteps, FpFreeze, FpFin0, FpComp, FpOps, FpOpsB, FpStp, FpStpB, FpStpC, FpAppend, FpStpAll, FpReads, FpTrace. -/
import Derived.Laws.World
import Derived.Laws.Rows
import Derived.Below
import GoSem.Op.Equal
import GoSem.Core.Region
import Derived.Deep.AppendSrc
import Derived.Laws.CopyRow
import Derived.Laws.Slices
import Derived.Laws.MakeOwn
import Derived.Laws.StructEq
import Derived.Orders
import Derived.Test.YtfioikimlnlcbaaGreatDoorF0
namespace Go.Abs
abbrev Inj :=Nat->Option (Nat × Nat × Nat)
variable (gid : Gid)
inductive RP (gid:Gid)(w:World)(M:Nat->Prop):Value->V->Prop
 |bool (b:Bool):RP gid w M (.bool b) (.bool b)
 |int (k:IntKind) (n:Int):RP gid w M (.int k n) (.int k n)
 |str (s:ByteArray):RP gid w M (.string s) (.str s)
 |nil:RP gid w M (.slice none 0 0) .nil
 |sl0:RP gid w M (.slice none 0 0) (.sl [])
 |emp (a:Addr) (cap:Nat):RP gid w M (.slice (some a) 0 cap) .emp
 |sl (a:Addr) (len cap s:Nat) (l:List V) (f:Nat->Nat->Value) (hlen:len=l.length) (ha:l≠[]->a.spot=none) (hM:l≠[]->¬M a.block) (hb:l≠[]->a.block<w.heap.size)
  (hcap:len<=cap) (hs:∀(i:Nat) (e:V),l[i]?=some e->e.cells.length=s)
  (hc:∀(i:Nat) (e:V) (j:Nat) (c:V),l[i]?=some e->e.cells[j]?=some c->w.cell? ⟨a.block,a.off+(i*s+j),none⟩=some (f i j))
  (hr:∀(i:Nat) (e:V) (j:Nat) (c:V),l[i]?=some e->e.cells[j]?=some c->RP gid w M (f i j) c):RP gid w M (.slice (some a) len cap) (.sl l)
 |eptr (a:Addr) (cs:List V) (f:Nat->Value) (ha:a.spot=none) (hM:¬M a.block) (hb:a.block<w.heap.size)
  (hc:∀(j:Nat) (c:V),cs[j]?=some c->w.cell? ⟨a.block,a.off+j,none⟩=some (f j))
  (hr:∀(j:Nat) (c:V),cs[j]?=some c->RP gid w M (f j) c):RP gid w M (.pointer (some a)) (.eptr cs)
 |fn (f g:Nat) (hg:gid f=some g):RP gid w M (.func (.func f) #[] #[]) (.fn g [])
 |nilfn:RP gid w M .nilFunc .nilfn
inductive RC (gid:Gid)(w:World)(M:Nat->Prop)(μ:Inj):Value->V->Prop
 |p {v:Value} {a:V} (h:RP gid w M v a):RC gid w M μ v a
 |ref (b z off len c base cap:Nat) (a:Addr) (arr:Array Value) (e:TypeId) (fr:Nat × Nat) (hμ:μ b=some (c,base,z)) (hc:a.block=c) (ha:a.spot=none) (hcap:len<=cap)
  (hoff:cap=0\/a.off=base+off*z) (hw:w.heap[c]?=some (.cells arr e fr)) (hsz:a.off+cap*z<=arr.size):RC gid w M μ (.slice (some a) len cap) (.ref b z off len)
 |ptr (b i off c base z n:Nat) (hμ:μ b=some (c,base,z)) (hn:n=base+(i*z+off)):RC gid w M μ (.pointer (some ⟨c,n,none⟩)) (.ptr b i off)
 |fn (f g:Nat) (caps:Array Value) (cs:List V) (hg:gid f=some g) (hsz:caps.size=cs.length)
  (hr:∀(i:Nat) (v:Value) (c:V),caps[i]?=some v->cs[i]?=some c->RC gid w M μ v c):RC gid w M μ (.func (.func f) #[] caps) (.fn g cs)
inductive R (gid:Gid)(w:World)(M:Nat->Prop)(μ:Inj):Value->V->Prop
 |c {v:Value} {a:V} (h:RC gid w M μ v a):R gid w M μ v a
 |agg (arr:Array Value) (cs:List V) (hsz:arr.size=cs.length) (hr:∀(i:Nat) (v:Value) (c:V),arr[i]?=some v->cs[i]?=some c->RC gid w M μ v c):R gid w M μ (.agg arr) (.agg cs)
 |tup (arr:Array Value) (vs:List V) (hsz:arr.size=vs.length) (hr:∀(i:Nat) (v:Value) (c:V),arr[i]?=some v->vs[i]?=some c->R gid w M μ v c):R gid w M μ (.tuple arr) (.tup vs)
variable {gid} {w w' : World} {M M' : Nat → Prop} {μ μ' : Inj}
theorem R.undef : R gid w M μ undef .undef:=.tup #[] [] rfl (by simp)
theorem RP.isCell {v:Value}{a:V}(h:RP gid w M v a):a.isCell=true:=by cases h<;>rfl
theorem RC.isCell {v:Value}{a:V}(h:RC gid w M μ v a):a.isCell=true:=by
 cases h with
 |p h=>exact h.isCell
 |_=>rfl
theorem RP.oneCell {v:Value}{a:V}(h:RP gid w M v a):v.oneCell'=true:=by cases h<;>rfl
theorem RC.oneCell {v:Value}{a:V}(h:RC gid w M μ v a):v.oneCell'=true:=by
 cases h with
 |p h=>exact h.oneCell
 |_=>rfl
theorem V.cells_cell {a:V}(h:a.isCell=true):a.cells=[a]:=by cases a<;>first|rfl|cases h
theorem Value.cells_cell {v:Value}(h:v.oneCell'=true):v.cells=#[v]:=by cases v<;>first|rfl|cases h
theorem RP.emp_sl {v:Value}(h:RP gid w M v .emp):RP gid w M v (.sl []):=by
 cases h with
 |emp a cap=>exact .sl a 0 cap 0 [] (fun _ _=>.nilFunc) rfl (by simp) (by simp) (by simp) (Nat.zero_le _) (by simp) (by simp) (by simp)
theorem RP.sl_emp {v:Value}(h:RP gid w M v (.sl [])):RP gid w M v .nil\/RP gid w M v .emp:=by
 cases h with
 |sl0=>exact .inl .nil
 |sl a len cap s l f hlen ha hM hb hcap=>
  simp at hlen;subst hlen;exact .inr (.emp a cap)
theorem R.inv_emp {v:Value}(h:R gid w M μ v .emp):∃a cap,v=.slice (some a) 0 cap:=by
 cases h with
 |c h=>cases h with
  |p h=>cases h with
   |emp a cap=>exact⟨a,cap,rfl⟩
structure Keep (w:World)(M:Nat->Prop)(w':World)(M':Nat->Prop):Prop where
 size:w.heap.size<=w'.heap.size
 same:∀c,c<w.heap.size->¬M c->w'.heap[c]?=w.heap[c]?
 sub:∀c,c<w.heap.size->M' c->M c
theorem Keep.cell (h:Keep w M w' M'){a:Addr}{v:Value}(hb:a.block<w.heap.size)(hM:¬M a.block)(hc:w.cell? a=some v):w'.cell? a=some v:=by
 rw[World.cell?_of_block (w:=w) (h.same a.block hb hM)];exact hc
theorem RP.keep (h:Keep w M w' M'){v:Value}{a:V}(hr:RP gid w M v a):RP gid w' M' v a:=by
 induction hr with
 |bool b=>exact .bool b
 |int k n=>exact .int k n
 |str s=>exact .str s
 |nil=>exact .nil
 |sl0=>exact .sl0
 |emp a cap=>exact .emp a cap
 |sl a len cap s l f hlen ha hM hb hcap hs hc _ ih=>
  have ne:∀{i:Nat} {e:V},l[i]?=some e->l≠[]:=fun hi h0=>by subst h0;simp at hi
  exact .sl a len cap s l f hlen ha (fun hn hm=>hM hn (h.sub _ (hb hn) hm)) (fun hn=>Nat.lt_of_lt_of_le (hb hn) h.size) hcap hs (fun i e j c h1 h2=>h.cell (a:=⟨a.block,_,none⟩) (hb (ne h1)) (hM (ne h1)) (hc i e j c h1 h2)) ih
 |eptr a cs f ha hM hb hc _ ih=>
  exact .eptr a cs f ha (fun hm=>hM (h.sub _ hb hm)) (Nat.lt_of_lt_of_le hb h.size) (fun j c h1=>h.cell (a:=⟨a.block,_,none⟩) hb hM (hc j c h1)) ih
 |fn f g hg=>exact .fn f g hg
 |nilfn=>exact .nilfn
def Shape (w w':World):Prop:=∀(c:Nat) (arr:Array Value) (e:TypeId) (fr:Nat × Nat),w.heap[c]?=some (.cells arr e fr)->∃arr',w'.heap[c]?=some (.cells arr' e fr)/\arr'.size=arr.size
theorem Shape.refl (w:World):Shape w w:=fun _ arr _ _ h=>⟨arr,h,rfl⟩
theorem Shape.trans {a b c:World}(h:Shape a b)(k:Shape b c):Shape a c:=fun i arr e fr hi=>by
 obtain⟨arr1,h1,s1⟩:=h i arr e fr hi;obtain⟨arr2,h2,s2⟩:=k i arr1 e fr h1;exact⟨arr2,h2,s2.trans s1⟩
inductive Low (n:Nat):V->Prop
 |cell {a:V} (h:a.cellPure=true):Low n a
 |ref (b z off len:Nat) (h:b<n):Low n (.ref b z off len)
 |ptr (b i off:Nat) (h:b<n):Low n (.ptr b i off)
 |fn (g:Nat) (cs:List V) (h:∀c ∈ cs,Low n c):Low n (.fn g cs)
theorem RC.mono (h:Keep w M w' M')(hs:Shape w w')(hμ:∀b x,μ b=some x->μ' b=some x){v:Value}{a:V}(hr:RC gid w M μ v a):RC gid w' M' μ' v a:=by
 induction hr with
 |p h1=>exact .p (h1.keep h)
 |ref b z off len c base cap a arr e fr h1 hc ha hcap hoff hw hsz=>
  obtain⟨arr',h2,h3⟩:=hs c arr e fr hw;exact .ref b z off len c base cap a arr' e fr (hμ _ _ h1) hc ha hcap hoff h2 (by omega)
 |ptr b i off c base z n h1 hn=>exact .ptr b i off c base z n (hμ _ _ h1) hn
 |fn f g caps cs hg hsz _ ih=>exact .fn f g caps cs hg hsz ih
theorem RC.low (h:Keep w M w' M')(hs:Shape w w'){n:Nat}(hμ:∀b x,b<n->μ b=some x->μ' b=some x){v:Value}{a:V}(hr:RC gid w M μ v a)(hl:Low n a):RC gid w' M' μ' v a:=by
 induction hr with
 |p h1=>exact .p (h1.keep h)
 |ref b z off len c base cap a arr e fr h1 hc ha hcap hoff hw hsz=>
  obtain⟨arr',h2,h3⟩:=hs c arr e fr hw;have hb:b<n:=by cases hl with|cell h=>cases h|ref _ _ _ _ h=>exact h
  exact .ref b z off len c base cap a arr' e fr (hμ _ _ hb h1) hc ha hcap hoff h2 (by omega)
 |ptr b i off c base z m h1 hn=>
  have hb:b<n:=by cases hl with|cell h=>cases h|ptr _ _ _ h=>exact h
  exact .ptr b i off c base z m (hμ _ _ hb h1) hn
 |fn f g caps cs hg hsz _ ih=>
  refine .fn f g caps cs hg hsz fun i v c h1 h2=>ih i v c h1 h2 ?_
  cases hl with
  |cell h=>
   cases cs with
   |nil=>simp at h2
   |cons _ _=>simp[V.cellPure]at h
  |fn _ _ h=>exact h c (List.mem_of_getElem? h2)
theorem RC.toLow {v:Value}{a:V}(hr:RC gid w M μ v a){n:Nat}(hμ:∀b x,μ b=some x->b<n):Low n a:=by
 induction hr with
 |p h1=>cases h1<;>exact .cell rfl
 |ref b z off len c base cap a arr e fr h1=>exact .ref _ _ _ _ (hμ _ _ h1)
 |ptr b i off c base z m h1 hn=>exact .ptr _ _ _ (hμ _ _ h1)
 |fn f g caps cs hg hsz _ ih=>
  refine .fn _ _ fun c hc=>?_
  obtain⟨i,hi⟩:=List.getElem?_of_mem hc;have hlt:i<caps.size:=by rw[hsz];exact(List.getElem?_eq_some_iff.1 hi).1
  exact ih i caps[i] c (by simp[hlt]) hi
theorem RC.pure {v:Value}{a:V}(hr:RC gid w M μ v a)(hp:a.cellPure=true):RP gid w M v a:=by
 cases hr with
 |p h=>exact h
 |ref=>cases hp
 |ptr=>cases hp
 |fn f g caps cs hg hsz _=>
  cases cs with
  |cons _ _=>cases hp
  |nil=>
   have:caps=#[]:=by cases caps;simp at hsz;simp[hsz]
   subst this;exact .fn f g hg
theorem R.mono (h:Keep w M w' M')(hs:Shape w w')(hμ:∀b x,μ b=some x->μ' b=some x){v:Value}{a:V}(hr:R gid w M μ v a):R gid w' M' μ' v a:=by
 induction hr with
 |c h1=>exact .c (h1.mono h hs hμ)
 |agg arr cs hsz h1=>exact .agg arr cs hsz fun i v c hv hc=>(h1 i v c hv hc).mono h hs hμ
 |tup arr vs hsz _ ih=>exact .tup arr vs hsz ih
theorem R.cells {v:Value}{a:V}(hr:R gid w M μ v a)(ht:a.isTup=false):v.cells.size=a.cells.length/\∀(i:Nat) (x:Value) (c:V),v.cells[i]?=some x->a.cells[i]?=some c->RC gid w M μ x c:=by
 cases hr with
 |c h=>
  rw[Value.cells_cell h.oneCell,V.cells_cell h.isCell];refine⟨rfl,fun i x c hx hc=>?_⟩;cases i with
  |zero=>simp at hx hc;subst hx;subst hc;exact h
  |succ i=>simp at hc
 |agg arr cs hsz h1=>exact⟨hsz,h1⟩
 |tup=>cases ht
def alive (H:Heap)(b:Nat):Prop:=∃k,H[b]?=some (some k)
def wrAt (H:Heap)(b:Nat):Prop:=∃k,H[b]?=some (some k)/\k.wr=true
structure BlkOk (gid:Gid)(w:World)(M:Nat->Prop)(μ:Inj)(c base z:Nat)(k:Blk):Prop where
 hz:k.z=z
 hM:k.wr=true->M c
 hF:k.wr=false->¬M c
 lay:∃(arr:Array Value) (e:TypeId),w.heap[c]?=some (.cells arr e (0,0))/\base+k.el.length*z<=arr.size /\
  ∀(i:Nat) (el:V),k.el[i]?=some el->el.isTup=false/\el.cells.length=z/\∀(j:Nat) (cv:V),el.cells[j]?=some cv->∃v,arr[base+(i*z+j)]?=some v/\RC gid w M μ v cv
 pur:k.arr=true->∀el ∈ k.el,el.pure=true
def Tabs (gid:Gid)(w:World)(M:Nat->Prop):Prop:=∀g cs,gid.tabs g=some cs->RP gid w M (.pointer (some ⟨g,0,none⟩)) (.eptr cs)
theorem Tabs.keep (h:Keep w M w' M')(t:Tabs gid w M):Tabs gid w' M':=fun g cs hg=>(t g cs hg).keep h
structure Sim (gid:Gid)(w:World)(M:Nat->Prop)(μ:Inj)(H:Heap):Prop where
 dom:∀b x,μ b=some x->b<H.length
 inj:∀b b' c base z base' z',μ b=some (c,base,z)->μ b'=some (c,base',z')->alive H b->alive H b'->b=b'
 blk:∀b c base z k,μ b=some (c,base,z)->H[b]?=some (some k)->BlkOk gid w M μ c base z k
 tab:Tabs gid w M
def LowH (n:Nat)(μ:Inj)(H:Heap):Prop:=∀b k,b<n->μ b≠none->H[b]?=some (some k)->∀el ∈ k.el,∀c ∈ el.cells,Low n c
structure Step (gid:Gid)(n0:Nat)(w:World)(M:Nat->Prop)(μ:Inj)(H:Heap)(w':World)(M':Nat->Prop)(μ':Inj)(H':Heap):Prop where
 sim:Sim gid w' M' μ' H'
 ext:∀b,b<H.length->μ' b=μ b
 len:H.length<=H'.length
 size:w.heap.size<=w'.heap.size
 frame:∀c,c<w.heap.size->(∀b base z,μ b=some (c,base,z)->¬wrAt H b)->w'.heap[c]?=w.heap[c]?
 shape:Shape w w'
 sub:∀c,M' c->M c\/w.heap.size<=c
 keepM:∀c,c<w.heap.size->M c->(∀b base z,μ b=some (c,base,z)->¬wrAt H b)->M' c
 fresh:∀b c base z,H.length<=b->μ' b=some (c,base,z)->w.heap.size<=c\/∃b0 base0 z0,μ b0=some (c,base0,z0)/\wrAt H b0
 wrmono:∀b,b<H.length->wrAt H' b->wrAt H b
 alv:∀b,b<H.length->alive H' b->alive H b
 low:∀n,n<=n0->LowH n μ H->LowH n μ' H'
 os:w'.os=w.os
 tape:w'.tape=w.tape
 output:w'.output=w.output
theorem Sim.wrM {H:Heap}(hs:Sim gid w M μ H){b c base z:Nat}(h:μ b=some (c,base,z))(hw:wrAt H b):M c:=by
 obtain⟨k,hk,hw⟩:=hw;exact(hs.blk b c base z k h hk).hM hw
theorem Step.keep {n0:Nat}{H H':Heap}(h:Step gid n0 w M μ H w' M' μ' H')(hs:Sim gid w M μ H):Keep w M w' M':=
 ⟨h.size,fun c hc hM=>h.frame c hc fun _ _ _ hb hw=>hM (hs.wrM hb hw),fun c hc hm=>(h.sub c hm).resolve_right (by omega)⟩
theorem Step.refl {n0:Nat}{H:Heap}(hs:Sim gid w M μ H):Step gid n0 w M μ H w M μ H:=
 ⟨hs,fun _ _=>rfl,Nat.le_refl _,Nat.le_refl _,fun _ _ _=>rfl,Shape.refl w,fun _ h=>.inl h,fun _ _ h _=>h,
  fun b c base z hb h=>absurd (hs.dom b _ h) (by omega),fun _ _ h=>h,fun _ _ h=>h,fun _ _ h=>h,rfl,rfl,rfl⟩
theorem Step.mono_map {n0:Nat}{H H':Heap}(h:Step gid n0 w M μ H w' M' μ' H')(hs:Sim gid w M μ H):∀b x,μ b=some x->μ' b=some x:=
 fun b x hx=>by rw[h.ext b (hs.dom b x hx)];exact hx
theorem Step.r {n0:Nat}{H H':Heap}(h:Step gid n0 w M μ H w' M' μ' H')(hs:Sim gid w M μ H){v:Value}{a:V}(hr:R gid w M μ v a):R gid w' M' μ' v a:=
 hr.mono (h.keep hs) h.shape (h.mono_map hs)
theorem Step.rc {n0:Nat}{H H':Heap}(h:Step gid n0 w M μ H w' M' μ' H')(hs:Sim gid w M μ H){v:Value}{a:V}(hr:RC gid w M μ v a):RC gid w' M' μ' v a:=
 hr.mono (h.keep hs) h.shape (h.mono_map hs)
theorem Step.trans {n0:Nat}{w1:World}{M1:Nat->Prop}{μ1:Inj}{H H1 H':Heap}(h:Step gid n0 w M μ H w1 M1 μ1 H1)(k:Step gid n0 w1 M1 μ1 H1 w' M' μ' H'):Step gid n0 w M μ H w' M' μ' H':=by
 have quiet:∀c,c<w.heap.size->(∀b base z,μ b=some (c,base,z)->¬wrAt H b)->∀b base z,μ1 b=some (c,base,z)->¬wrAt H1 b:=by
  intro c hc hq b base z hb hw;by_cases hlt:b<H.length
  ·exact hq b base z (by rw[<-h.ext b hlt];exact hb) (h.wrmono b hlt hw)
  ·rcases h.fresh b c base z (by omega) hb with h1|⟨b0,base0,z0,h1,h2⟩
   ·omega
   ·exact hq b0 base0 z0 h1 h2
 refine⟨k.sim,fun b hb=>(k.ext b (Nat.lt_of_lt_of_le hb h.len)).trans (h.ext b hb),Nat.le_trans h.len k.len,Nat.le_trans h.size k.size,?_,h.shape.trans k.shape,?_,?_,?_,?_,?_,
  fun n hn hl=>k.low n hn (h.low n hn hl),k.os.trans h.os,k.tape.trans h.tape,k.output.trans h.output⟩
 ·intro c hc hq;rw[k.frame c (Nat.lt_of_lt_of_le hc h.size) (quiet c hc hq),h.frame c hc hq]
 ·intro c hc;rcases k.sub c hc with h1|h1
  ·exact h.sub c h1
  ·exact .inr (Nat.le_trans h.size h1)
 ·intro c hc hm hq;exact k.keepM c (Nat.lt_of_lt_of_le hc h.size) (h.keepM c hc hm hq) (quiet c hc hq)
 ·intro b c base z hb hm;by_cases hlt:b<H1.length
  ·rw[k.ext b hlt]at hm;exact h.fresh b c base z hb hm
  ·rcases k.fresh b c base z (by omega) hm with h1|⟨b0,base0,z0,h1,h2⟩
   ·exact .inl (Nat.le_trans h.size h1)
   ·by_cases hl0:b0<H.length
    ·exact .inr ⟨b0,base0,z0,by rw[<-h.ext b0 hl0];exact h1,h.wrmono b0 hl0 h2⟩
    ·exact h.fresh b0 c base0 z0 (by omega) h1
 ·exact fun b hb hw=>h.wrmono b hb (k.wrmono b (Nat.lt_of_lt_of_le hb h.len) hw)
 ·exact fun b hb hw=>h.alv b hb (k.alv b (Nat.lt_of_lt_of_le hb h.len) hw)
end Go.Abs
namespace Go.Abs
variable {gid : Gid} {w w' : World} {M M' : Nat → Prop} {μ μ' : Inj} {H : Heap}
theorem Keep.refl (w:World)(M:Nat->Prop):Keep w M w M:=⟨Nat.le_refl _,fun _ _ _=>rfl,fun _ _ h=>h⟩
theorem BlkOk.mono {c base z:Nat}{k:Blk}(h:BlkOk gid w M μ c base z k)(hk:Keep w M w' M')(hs:Shape w w')(hμ:∀b x,μ b=some x->μ' b=some x)
 (hsame:w'.heap[c]?=w.heap[c]?) (hM:k.wr=true->M' c):BlkOk gid w' M' μ' c base z k:=by
 obtain⟨arr,e,h1,h2,h3⟩:=h.lay;refine⟨h.hz,hM,fun hw hm=>h.hF hw (hk.sub c (Array.getElem?_eq_some_iff.1 h1).1 hm),⟨arr,e,by rw[hsame];exact h1,h2,fun i el hi=>?_⟩,h.pur⟩;obtain⟨ht,hz,hc⟩:=h3 i el hi;refine⟨ht,hz,fun j cv hj=>?_⟩;obtain⟨v,hv,hr⟩:=hc j cv hj;exact⟨v,hv,hr.mono hk hs hμ⟩
theorem BlkOk.lt {c base z:Nat}{k:Blk}(h:BlkOk gid w M μ c base z k):c<w.heap.size:=by
 obtain⟨arr,e,h1,_⟩:=h.lay;exact(Array.getElem?_eq_some_iff.1 h1).1
structure Same (w w':World):Prop where
 heap:w'.heap=w.heap
 os:w'.os=w.os
 tape:w'.tape=w.tape
 output:w'.output=w.output
theorem Same.refl (w:World):Same w w:=⟨rfl,rfl,rfl,rfl⟩
theorem Same.drew (w:World):Same w w.drew:=⟨rfl,rfl,rfl,rfl⟩
theorem Same.keep (h:Same w w')(M:Nat->Prop):Keep w M w' M:=⟨by rw[h.heap];exact Nat.le_refl _,fun c _ _=>by rw[h.heap],fun _ _ h=>h⟩
theorem Same.shape (h:Same w w'):Shape w w':=fun c arr e fr hc=>⟨arr,by rw[h.heap];exact hc,rfl⟩
theorem Sim.same (hs:Sim gid w M μ H)(h:Same w w'):Sim gid w' M μ H:=
 ⟨hs.dom,hs.inj,fun b c base z k h1 h2=>(hs.blk b c base z k h1 h2).mono (h.keep M) h.shape (fun _ _ h=>h) (by rw[h.heap]) (hs.blk b c base z k h1 h2).hM,hs.tab.keep (h.keep M)⟩
theorem Step.same {n0:Nat}(hs:Sim gid w M μ H)(h:Same w w'):Step gid n0 w M μ H w' M μ H:=
 ⟨hs.same h,fun _ _=>rfl,Nat.le_refl _,by rw[h.heap];exact Nat.le_refl _,fun c _ _=>by rw[h.heap],h.shape,fun _ h=>.inl h,fun _ _ h _=>h,
  fun b c base z hb h=>absurd (hs.dom b _ h) (by omega),fun _ _ h=>h,fun _ _ h=>h,fun _ _ h=>h,h.os,h.tape,h.output⟩
theorem qen {b b':Nat}{x:Option Blk}(hx:x=none\/alive H b)(h:alive (H.set b x) b'):alive H b':=by
 obtain⟨k,hk⟩:=h;by_cases e:b=b'
 ·subst e;by_cases hlt:b<H.length
  ·rw[List.getElem?_set_self hlt]at hk;injection hk with hk
   subst hk;rcases hx with hx|hx
   ·cases hx
   ·exact hx
  ·rw[List.set_eq_of_length_le (by omega)]at hk;exact⟨k,hk⟩
 ·rw[List.getElem?_set_ne e]at hk;exact⟨k,hk⟩
theorem Step.kill {n0 b:Nat}(hs:Sim gid w M μ H):Step gid n0 w M μ H w M μ (H.set b none):=by
 have get:∀(b':Nat) (k:Blk),(H.set b none)[b']?=some (some k)->H[b']?=some (some k):=by
  intro b' k hk;by_cases e:b=b'
  ·subst e;by_cases hlt:b<H.length
   ·rw[List.getElem?_set_self hlt]at hk;cases hk
   ·rwa[List.set_eq_of_length_le (by omega)]at hk
  ·rwa[List.getElem?_set_ne e]at hk
 refine⟨⟨fun b' x h=>by simpa using hs.dom b' x h,fun b1 b2 c base z base' z' h1 h2 a1 a2=>hs.inj b1 b2 c base z base' z' h1 h2 (qen (.inl rfl) a1) (qen (.inl rfl) a2),
  fun b' c base z k h1 h2=>hs.blk b' c base z k h1 (get b' k h2),hs.tab⟩,fun _ _=>rfl,by simp,Nat.le_refl _,fun _ _ _=>rfl,Shape.refl w,fun _ h=>.inl h,fun _ _ h _=>h,
  fun b' c base z hb h=>absurd (hs.dom b' _ h) (by omega),fun b' _ h=>?_,fun b' _ h=>qen (.inl rfl) h,fun n _ hl b' k h1 h2 h3=>hl b' k h1 h2 (get b' k h3),rfl,rfl,rfl⟩
 obtain⟨k,hk,hw⟩:=h;exact⟨k,get b' k hk,hw⟩
theorem Step.freeze {n0 b c base z:Nat}{k:Blk}(hs:Sim gid w M μ H)(hb:μ b=some (c,base,z))(hk:H[b]?=some (some k))(hw:k.wr=true) :
 Step gid n0 w M μ H w (fun x=>M x/\x≠c) μ (H.set b (some { k with wr:=false })):=by
 have hlt:b<H.length:=hs.dom b _ hb;have get:∀(b':Nat) (k':Blk),(H.set b (some { k with wr:=false }))[b']?=some (some k')->(b'≠b/\H[b']?=some (some k'))\/(b'=b/\k'={ k with wr:=false }):=by
  intro b' k' h;by_cases e:b=b'
  ·subst e;rw[List.getElem?_set_self hlt]at h;injection h with h;injection h with h;exact .inr ⟨rfl,h.symm⟩
  ·rw[List.getElem?_set_ne e]at h;exact .inl ⟨fun h'=>e h'.symm,h⟩
 have kp:Keep w M w (fun x=>M x/\x≠c):=⟨Nat.le_refl _,fun _ _ _=>rfl,fun _ _ h=>h.1⟩
 refine⟨⟨fun b' x h=>by simpa using hs.dom b' x h,fun b1 b2 c base z base' z' h1 h2 a1 a2=>hs.inj b1 b2 c base z base' z' h1 h2 (qen (.inr ⟨k,hk⟩) a1) (qen (.inr ⟨k,hk⟩) a2),?_,hs.tab.keep kp⟩,
  fun _ _=>rfl,by simp,Nat.le_refl _,fun _ _ _=>rfl,Shape.refl w,fun _ h=>.inl h.1,?_,fun b' c base z hb h=>absurd (hs.dom b' _ h) (by omega),?_,fun b' _ h=>qen (.inr ⟨k,hk⟩) h,?_,rfl,rfl,rfl⟩
 ·intro b' c' base' z' k' h1 h2;rcases get b' k' h2 with ⟨hne,h3⟩|⟨rfl,rfl⟩
  ·have h4:=hs.blk b' c' base' z' k' h1 h3;refine h4.mono kp (Shape.refl w) (fun _ _ h=>h) rfl fun hw'=>⟨h4.hM hw',?_⟩
   intro e;subst e;exact hne (hs.inj b' b c' base' z' base z h1 hb ⟨k',h3⟩ ⟨k,hk⟩)
  ·have h4:=hs.blk b' c' base' z' k h1 hk;have h5:=h4.mono (M':=fun x=>M x/\x≠c) (μ':=μ) kp (Shape.refl w) (fun _ _ h=>h) rfl;obtain⟨arr,e,l1,l2,l3⟩:=h4.lay;refine⟨h4.hz,fun h=>by simp at h,fun _ hm=>hm.2 (by rw[hb]at h1;injection h1 with h1;injection h1 with h1 _;exact h1.symm),⟨arr,e,l1,l2,fun i el hi=>?_⟩,h4.pur⟩;obtain⟨ht,hz,hc⟩:=l3 i el hi;refine⟨ht,hz,fun j cv hj=>?_⟩;obtain⟨v,hv,hr⟩:=hc j cv hj;exact⟨v,hv,hr.mono kp (Shape.refl w) (fun _ _ h=>h)⟩
 ·intro c' hc' hm hq;exact⟨hm,fun e=>by subst e;exact hq b base z hb ⟨k,hk,hw⟩⟩
 ·intro b' hb' ⟨k',h1,h2⟩;rcases get b' k' h1 with ⟨_,h3⟩|⟨rfl,rfl⟩
  ·exact⟨k',h3,h2⟩
  ·simp at h2
 ·intro n hn hl b' k' h1 h2 h3;rcases get b' k' h3 with ⟨_,h4⟩|⟨rfl,rfl⟩
  ·exact hl b' k' h1 h2 h4
  ·exact hl b' k h1 h2 hk
theorem Step.alloc {n0:Nat}(hn:n0<=H.length)(hs:Sim gid w M μ H)(h:Same w w')(arr:Array Value)(e:TypeId)(k:Blk)(hwr:k.wr=true)(hsz:k.el.length*k.z<=arr.size)
 (hlay:∀(i:Nat) (el:V),k.el[i]?=some el->el.isTup=false/\el.cells.length=k.z/\∀(j:Nat) (cv:V),el.cells[j]?=some cv->∃v,arr[i*k.z+j]?=some v/\RC gid w M μ v cv)
 (hpur:k.arr=true->∀el ∈ k.el,el.pure=true) :
 Step gid n0 w M μ H (w'.alloc (.cells arr e)) (fun c=>M c\/c=w.heap.size) (fun b=>if b=H.length then some (w.heap.size,0,k.z)else μ b) (H++[some k]):=by
 have hw:(w'.alloc (.cells arr e)).heap[w.heap.size]?=some (.cells arr e (0,0)):=by rw[<-h.heap];exact heap_alloc_new w' _
 have ho:∀c,c<w.heap.size->(w'.alloc (.cells arr e)).heap[c]?=w.heap[c]?:=fun c hc=>by
  have:=heap_alloc_old w' (.cells arr e) c (by rw[h.heap];exact hc);rw[this,h.heap]
 have kp:Keep w M (w'.alloc (.cells arr e)) (fun c=>M c\/c=w.heap.size):=⟨by simp[h.heap],fun c hc _=>ho c hc,fun c hc hm=>hm.resolve_right (by omega)⟩
 have sh:Shape w (w'.alloc (.cells arr e)):=fun c a e' fr hc=>⟨a,by rw[ho c (Array.getElem?_eq_some_iff.1 hc).1];exact hc,rfl⟩
 have mm:∀b x,μ b=some x->(if b=H.length then some (w.heap.size,0,k.z)else μ b)=some x:=fun b x hb=>by
  have:=hs.dom b x hb;rw[if_neg (by omega)];exact hb
 have get:∀(b':Nat) (k':Blk),(H++[some k])[b']?=some (some k')->(b'<H.length/\H[b']?=some (some k'))\/(b'=H.length/\k'=k):=by
  intro b' k' hk;by_cases hlt:b'<H.length
  ·rw[List.getElem?_append_left hlt]at hk;exact .inl ⟨hlt,hk⟩
  ·rw[List.getElem?_append_right (by omega)]at hk;have e:b'-H.length=0:=by
    cases hq:b'-H.length with
    |zero=>rfl
    |succ q=>rw[hq]at hk;simp at hk
   rw[e]at hk;simp at hk;exact .inr ⟨by omega,hk.symm⟩
 refine⟨⟨?_,?_,?_,hs.tab.keep kp⟩,fun b hb=>by rw[if_neg (by omega)],by simp,by simp[h.heap],fun c hc _=>ho c hc,sh,?_,fun c _ hm _=>.inl hm,?_,?_,?_,?_,h.os,h.tape,h.output⟩
 ·intro b x hx;simp only[List.length_append,List.length_singleton];split at hx
  ·omega
  ·have:=hs.dom b x hx;omega
 ·intro b1 b2 c base z base' z' h1 h2 a1 a2;have old:∀b c base z,μ b=some (c,base,z)->alive (H++[some k]) b->c<w.heap.size/\alive H b:=by
   intro b c base z hb ⟨k',hk'⟩;rcases get b k' hk' with ⟨hl,h3⟩|⟨h3,_⟩
   ·exact⟨(hs.blk b c base z k' hb h3).lt,⟨k',h3⟩⟩
   ·exact absurd (hs.dom b _ hb) (by omega)
  split at h1<;>split at h2
  ·omega
  ·injection h1 with h1;injection h1 with h1 _
   have:=(old b2 c base' z' h2 a2).1;omega
  ·injection h2 with h2;injection h2 with h2 _
   have:=(old b1 c base z h1 a1).1;omega
  ·exact hs.inj b1 b2 c base z base' z' h1 h2 (old b1 c base z h1 a1).2 (old b2 c base' z' h2 a2).2
 ·intro b c base z k' h1 h2;rcases get b k' h2 with ⟨hl,h3⟩|⟨rfl,rfl⟩
  ·rw[if_neg (by omega)]at h1;have h4:=hs.blk b c base z k' h1 h3;exact h4.mono kp sh mm (ho c h4.lt) fun hw=>.inl (h4.hM hw)
  ·rw[if_pos rfl]at h1;injection h1 with h1
   injection h1 with h1 h5
   injection h5 with h5 h6
   subst h1;subst h5;subst h6;refine⟨rfl,fun _=>.inr rfl,(fun h=>by rw[hwr]at h;cases h),⟨arr,e,hw,by omega,fun i el hi=>?_⟩,hpur⟩;obtain⟨ht,hz,hc⟩:=hlay i el hi;refine⟨ht,hz,fun j cv hj=>?_⟩;obtain⟨v,hv,hr⟩:=hc j cv hj;exact⟨v,by rw[Nat.zero_add];exact hv,hr.mono kp sh mm⟩
 ·intro c hc;rcases hc with hc|hc
  ·exact .inl hc
  ·exact .inr (by omega)
 ·intro b c base z hb h1;split at h1
  ·injection h1 with h1;injection h1 with h1 _;exact .inl (by omega)
  ·exact absurd (hs.dom b _ h1) (by omega)
 ·intro b hb ⟨k',h1,h2⟩;rcases get b k' h1 with ⟨_,h3⟩|⟨h3,_⟩
  ·exact⟨k',h3,h2⟩
  ·omega
 ·intro b hb ⟨k',h1⟩;rcases get b k' h1 with ⟨_,h3⟩|⟨h3,_⟩
  ·exact⟨k',h3⟩
  ·omega
 ·intro n hn' hl b k' h1 h2 h3;have h2:(if b=H.length then some (w.heap.size,0,k.z)else μ b)≠none:=h2;rcases get b k' h3 with ⟨_,h4⟩|⟨h4,_⟩
  ·rw[if_neg (by omega)]at h2;exact hl b k' h1 h2 h4
  ·omega
theorem Step.write {n0 b c base z:Nat}{k:Blk}(hs:Sim gid w M μ H)(hb:μ b=some (c,base,z))(hk:H[b]?=some (some k))(hw:k.wr=true)
 (arr arr':Array Value) (e:TypeId) (hc:w.heap[c]?=some (.cells arr e (0,0))) (hsz:arr'.size=arr.size) (el':List V) (hfit:base+el'.length*z<=arr.size)
 (hlay:∀(i:Nat) (el:V),el'[i]?=some el->el.isTup=false/\el.cells.length=z/\∀(j:Nat) (cv:V),el.cells[j]?=some cv->∃v,arr'[base+(i*z+j)]?=some v/\RC gid w M μ v cv)
 (hpur:k.arr=true->∀el ∈ el',el.pure=true)
 (hlow:∀n,n<=n0->b<n->(∀el ∈ k.el,∀x ∈ el.cells,Low n x)->∀el ∈ el',∀x ∈ el.cells,Low n x) :
 Step gid n0 w M μ H (w.setRow c arr') M μ (H.set b (some { k with el:=el' })):=by
 have hlt:b<H.length:=hs.dom b _ hb;have hblk:=hs.blk b c base z k hb hk;have hnew:=setRow_heap w c arr arr' e (0,0) hc;have hold:∀c',c'≠c->(w.setRow c arr').heap[c']?=w.heap[c']?:=fun c' h=>setRow_other w c c' arr' h
 have hMc:M c:=hblk.hM hw;have kp:Keep w M (w.setRow c arr') M:=⟨by simp,fun c' _ hm=>hold c' (fun h=>hm (h ▸ hMc)),fun _ _ h=>h⟩
 have sh:Shape w (w.setRow c arr'):=by
  intro c' a e' fr h;by_cases hcc:c'=c
  ·subst hcc;rw[hc]at h;injection h with h
   injection h with h1 h2 h3
   subst h1;subst h2;subst h3;exact⟨arr',hnew,hsz⟩
  ·exact⟨a,by rw[hold c' hcc];exact h,rfl⟩
 have get:∀(b':Nat) (k':Blk),(H.set b (some { k with el:=el' }))[b']?=some (some k')->(b'≠b/\H[b']?=some (some k'))\/(b'=b/\k'={ k with el:=el' }):=by
  intro b' k' h;by_cases e:b=b'
  ·subst e;rw[List.getElem?_set_self hlt]at h;injection h with h;injection h with h;exact .inr ⟨rfl,h.symm⟩
  ·rw[List.getElem?_set_ne e]at h;exact .inl ⟨fun h'=>e h'.symm,h⟩
 refine⟨⟨fun b' x h=>by simpa using hs.dom b' x h,fun b1 b2 c base z base' z' h1 h2 a1 a2=>hs.inj b1 b2 c base z base' z' h1 h2 (qen (.inr ⟨k,hk⟩) a1) (qen (.inr ⟨k,hk⟩) a2),?_,hs.tab.keep kp⟩,
  fun _ _=>rfl,by simp,by simp,?_,sh,fun _ h=>.inl h,fun _ _ h _=>h,fun b' c base z hb h=>absurd (hs.dom b' _ h) (by omega),?_,fun b' _ h=>qen (.inr ⟨k,hk⟩) h,?_,rfl,rfl,rfl⟩
 ·intro b' c' base' z' k' h1 h2;rcases get b' k' h2 with ⟨hne,h3⟩|⟨rfl,rfl⟩
  ·have h4:=hs.blk b' c' base' z' k' h1 h3;refine h4.mono kp sh (fun _ _ h=>h) (hold c' fun e=>?_) h4.hM;subst e;exact hne (hs.inj b' b c' base' z' base z h1 hb ⟨k',h3⟩ ⟨k,hk⟩)
  ·rw[hb]at h1;injection h1 with h1
   injection h1 with h1 h5
   injection h5 with h5 h6
   subst h1;subst h5;subst h6;refine⟨hblk.hz,fun _=>hMc,(fun h=>by rw[show({ k with el:=el' }:Blk).wr=k.wr from rfl,hw]at h;cases h),⟨arr',e,hnew,by rw[hsz];exact hfit,fun i el hi=>?_⟩,hpur⟩;obtain⟨ht,hz,hcc⟩:=hlay i el hi;refine⟨ht,hz,fun j cv hj=>?_⟩;obtain⟨v,hv,hr⟩:=hcc j cv hj;exact⟨v,hv,hr.mono kp sh (fun _ _ h=>h)⟩
 ·intro c' hc' hq;exact hold c' fun e=>by subst e;exact hq b base z hb ⟨k,hk,hw⟩
 ·intro b' hb' ⟨k',h1,h2⟩;rcases get b' k' h1 with ⟨_,h3⟩|⟨rfl,rfl⟩
  ·exact⟨k',h3,h2⟩
  ·exact⟨k,hk,hw⟩
 ·intro n hn hl b' k' h1 h2 h3;rcases get b' k' h3 with ⟨_,h4⟩|⟨rfl,rfl⟩
  ·exact hl b' k' h1 h2 h4
  ·exact hlow n hn h1 (hl b' k h1 h2 hk)
theorem Step.regrow {n0 b c base z base':Nat}{k k':Blk}(hn:n0<=H.length)(hs:Sim gid w M μ H)(hb:μ b=some (c,base,z))(hk:H[b]?=some (some k))(hw:k.wr=true)(hkz:k'.z=z)(hkw:k'.wr=true)
 (arr arr':Array Value) (e:TypeId) (hc:w.heap[c]?=some (.cells arr e (0,0))) (hsz:arr'.size=arr.size) (hfit:base'+k'.el.length*z<=arr.size)
 (hlay:∀(i:Nat) (el:V),k'.el[i]?=some el->el.isTup=false/\el.cells.length=z/\∀(j:Nat) (cv:V),el.cells[j]?=some cv->∃v,arr'[base'+(i*z+j)]?=some v/\RC gid w M μ v cv)
 (hpur:k'.arr=true->∀el ∈ k'.el,el.pure=true) :
 Step gid n0 w M μ H (w.setRow c arr') M (fun x=>if x=H.length then some (c,base',z)else μ x) (H.set b none++[some k']):=by
 have hlt:b<H.length:=hs.dom b _ hb;have hblk:=hs.blk b c base z k hb hk;have hnew:=setRow_heap w c arr arr' e (0,0) hc;have hold:∀c',c'≠c->(w.setRow c arr').heap[c']?=w.heap[c']?:=fun c' h=>setRow_other w c c' arr' h
 have hMc:M c:=hblk.hM hw;have kp:Keep w M (w.setRow c arr') M:=⟨by simp,fun c' _ hm=>hold c' (fun h=>hm (h ▸ hMc)),fun _ _ h=>h⟩
 have sh:Shape w (w.setRow c arr'):=by
  intro c' a e' fr h;by_cases hcc:c'=c
  ·subst hcc;rw[hc]at h;injection h with h
   injection h with h1 h2 h3
   subst h1;subst h2;subst h3;exact⟨arr',hnew,hsz⟩
  ·exact⟨a,by rw[hold c' hcc];exact h,rfl⟩
 have mm:∀x y,μ x=some y->(if x=H.length then some (c,base',z)else μ x)=some y:=fun x y hx=>by
  have:=hs.dom x y hx;rw[if_neg (by omega)];exact hx
 have get:∀(b':Nat) (q:Blk),(H.set b none++[some k'])[b']?=some (some q)->(b'<H.length/\b'≠b/\H[b']?=some (some q))\/(b'=H.length/\q=k'):=by
  intro b' q hq;by_cases hl:b'<H.length
  ·rw[List.getElem?_append_left (by simpa using hl)]at hq;by_cases e:b=b'
   ·subst e;rw[List.getElem?_set_self hlt]at hq;cases hq
   ·rw[List.getElem?_set_ne e]at hq;exact .inl ⟨hl,fun h=>e h.symm,hq⟩
  ·rw[List.getElem?_append_right (by simp;omega)]at hq;simp only[List.length_set]at hq;have e:b'-H.length=0:=by
    cases hq':b'-H.length with
    |zero=>rfl
    |succ r=>rw[hq']at hq;simp at hq
   rw[e]at hq;simp at hq;exact .inr ⟨by omega,hq.symm⟩
 refine⟨⟨?_,?_,?_,hs.tab.keep kp⟩,fun x hx=>by rw[if_neg (by omega)],by simp,by simp,?_,sh,fun _ h=>.inl h,fun _ _ h _=>h,?_,?_,?_,?_,rfl,rfl,rfl⟩
 ·intro x y hx;simp only[List.length_append,List.length_set,List.length_singleton];split at hx
  ·omega
  ·have:=hs.dom x y hx;omega
 ·intro b1 b2 c1 o1 z1 o2 z2 h1 h2 ⟨q1,a1⟩ ⟨q2,a2⟩;rcases get b1 q1 a1 with ⟨l1,n1,g1⟩|⟨l1,_⟩<;>rcases get b2 q2 a2 with ⟨l2,n2,g2⟩|⟨l2,_⟩
  ·rw[if_neg (by omega)]at h1 h2;exact hs.inj b1 b2 c1 o1 z1 o2 z2 h1 h2 ⟨q1,g1⟩ ⟨q2,g2⟩
  ·rw[if_neg (by omega)]at h1;rw[if_pos l2]at h2;injection h2 with h2;injection h2 with h2 _
   subst h2;exact absurd (hs.inj b1 b c o1 z1 base z h1 hb ⟨q1,g1⟩ ⟨k,hk⟩) n1
  ·rw[if_neg (by omega)]at h2;rw[if_pos l1]at h1;injection h1 with h1;injection h1 with h1 _
   subst h1;exact absurd (hs.inj b2 b c o2 z2 base z h2 hb ⟨q2,g2⟩ ⟨k,hk⟩) n2
  ·omega
 ·intro x c1 o1 z1 q h1 h2;rcases get x q h2 with ⟨l,n,g⟩|⟨rfl,rfl⟩
  ·rw[if_neg (by omega)]at h1;have h4:=hs.blk x c1 o1 z1 q h1 g;refine h4.mono kp sh mm (hold c1 fun e=>?_) h4.hM;subst e;exact n (hs.inj x b c1 o1 z1 base z h1 hb ⟨q,g⟩ ⟨k,hk⟩)
  ·rw[if_pos rfl]at h1;injection h1 with h1
   injection h1 with h1 h5
   injection h5 with h5 h6
   subst h1;subst h5;subst h6;refine⟨hkz,fun _=>hMc,(fun h=>by rw[hkw]at h;cases h),⟨arr',e,hnew,by omega,fun i el hi=>?_⟩,hpur⟩;obtain⟨ht,hz,hcc⟩:=hlay i el hi;refine⟨ht,hz,fun j cv hj=>?_⟩;obtain⟨v,hv,hr⟩:=hcc j cv hj;exact⟨v,hv,hr.mono kp sh mm⟩
 ·intro c' hc' hq;exact hold c' fun e=>by subst e;exact hq b base z hb ⟨k,hk,hw⟩
 ·intro x c1 o1 z1 hx h1;split at h1
  ·injection h1 with h1;injection h1 with h1 _
   subst h1;exact .inr ⟨b,base,z,hb,k,hk,hw⟩
  ·exact absurd (hs.dom x _ h1) (by omega)
 ·intro x hx ⟨q,h1,h2⟩;rcases get x q h1 with ⟨_,_,g⟩|⟨l,_⟩
  ·exact⟨q,g,h2⟩
  ·omega
 ·intro x hx ⟨q,h1⟩;rcases get x q h1 with ⟨_,_,g⟩|⟨l,_⟩
  ·exact⟨q,g⟩
  ·omega
 ·intro n hn' hl x q h1 h2 h3;have h2:(if x=H.length then some (c,base',z)else μ x)≠none:=h2;rcases get x q h3 with ⟨_,_,g⟩|⟨l,_⟩
  ·rw[if_neg (by omega)]at h2;exact hl x q h1 h2 g
  ·omega
end Go.Abs
namespace Go.Abs
variable {gid : Gid} {w : World} {M : Nat → Prop} {μ : Inj} {H : Heap}
theorem quu {el:V}(h:el.pure=true){j:Nat}{c:V}(hc:el.cells[j]?=some c):c.cellPure=true:=
 List.all_eq_true.1 h c (List.mem_of_getElem? hc)
theorem qjg (hs:Sim gid w M μ H){b z off len:Nat}{k:Blk}{v:Value}(hk:H[b]?=some (some k))
 (hr:RC gid w M μ v (.ref b z off len)) :
 ∃(a:Addr) (cap c base:Nat) (arr:Array Value) (e:TypeId),v=.slice (some a) len cap/\a.block=c/\a.spot=none/\len<=cap/\μ b=some (c,base,z)/\(cap=0\/a.off=base+off*z) /\
  w.heap[c]?=some (.cells arr e (0,0))/\a.off+cap*z<=arr.size /\
  ∀(i:Nat) (el:V),((k.el.drop off).take len)[i]?=some el->el.isTup=false/\el.cells.length=z/\(k.arr=true->el.pure=true) /\
   ∀(j:Nat) (cv:V),el.cells[j]?=some cv->∃x,arr[a.off+(i*z+j)]?=some x/\RC gid w M μ x cv:=by
 cases hr with
 |p h=>cases h
 |ref b z off len c base cap a arr e fr hμ hc ha hcap hoff hw hsz=>
  have hb:=hs.blk b c base z k hμ hk;obtain⟨arr1,e1,h1,h2,h3⟩:=hb.lay;rw[h1]at hw;injection hw with hw
  injection hw with w1 w2 w3
  subst w1;subst w2;subst w3;refine⟨a,cap,c,base,arr1,e1,rfl,hc,ha,hcap,hμ,hoff,h1,hsz,fun i el hi=>?_⟩;rw[List.getElem?_take]at hi;split at hi
  ·rename_i hlt;rw[List.getElem?_drop]at hi;obtain⟨ht,hzz,hcs⟩:=h3 _ el hi;refine⟨ht,hzz,fun ha=>hb.pur ha el (List.mem_of_getElem? hi),fun j cv hj=>?_⟩;obtain⟨x,hx,hrx⟩:=hcs j cv hj;refine⟨x,?_,hrx⟩;have ho:a.off=base+off*z:=hoff.resolve_left (by omega);rw[ho,<-hx]
   congr 1
   rw[Nat.add_mul];omega
  ·cases hi
theorem qaes (hs:Sim gid w M μ H){b z off len:Nat}{k:Blk}{v:Value}(hk:H[b]?=some (some k))(ha:k.arr=true)(hfit:off+len<=k.el.length)
 (hr:RC gid w M μ v (.ref b z off len)) {M':Nat->Prop} (kp:Keep w M w M') (hM':∀c base,μ b=some (c,base,z)->¬M' c):RP gid w M' v (.sl ((k.el.drop off).take len)):=by
 obtain⟨a,cap,c,base,arr,e,rfl,hc,hsp,hcap,hμ,hoff,hw,hsz,hcs⟩:=qjg hs hk hr;have hlen:((k.el.drop off).take len).length=len:=by simp;omega
 refine .sl a len cap z _ (fun i j=>(arr[a.off+(i*z+j)]?).getD Go.undef) hlen.symm (fun _=>hsp) ?_ ?_ hcap ?_ ?_ ?_
 ·intro _;rw[hc];exact hM' c base hμ
 ·intro _;rw[hc];exact(Array.getElem?_eq_some_iff.1 hw).1
 ·exact fun i el hi=>(hcs i el hi).2.1
 ·intro i el j cv hi hj;obtain⟨x,hx,_⟩:=(hcs i el hi).2.2.2 j cv hj;rw[hc,cell_of_row w c _ arr e (0,0) hw,hx];rfl
 ·intro i el j cv hi hj;obtain⟨x,hx,hrx⟩:=(hcs i el hi).2.2.2 j cv hj;rw[hx];exact(hrx.pure (quu ((hcs i el hi).2.2.1 ha) hj)).keep kp
theorem qps {n0:Nat}(hs:Sim gid w M μ H){c c':V}{H1:Heap}(h:frzC H c=some (c',H1)){v:Value}(hr:RC gid w M μ v c) :
 ∃M',Step gid n0 w M μ H w M' μ H1/\RC gid w M' μ v c'/\H1.length=H.length:=by
 have same:∀{x:V},c=x->frzC H x=some (x,H)->∃M',Step gid n0 w M μ H w M' μ H1/\RC gid w M' μ v c'/\H1.length=H.length:=by
  intro x hx hf;subst hx;rw[hf]at h;injection h with h
  injection h with h1 h2
  subst h1;subst h2;exact⟨M,.refl hs,hr,rfl⟩
 cases c with
 |nil=>
  simp only[frzC]at h;injection h with h;injection h with h1 h2
  subst h1;subst h2;cases hr with
  |p hr=>cases hr;exact⟨M,.refl hs,.p .sl0,rfl⟩
 |emp=>
  simp only[frzC]at h;injection h with h;injection h with h1 h2
  subst h1;subst h2;cases hr with
  |p hr=>exact⟨M,.refl hs,.p hr.emp_sl,rfl⟩
 |ref b z off len=>
  simp only[frzC]at h;split at h
  ·rename_i k hk;split at h
   ·rename_i hcond;obtain⟨ha,hz,hfit⟩:=hcond;injection h with h;injection h with h1 h2
    subst h1;obtain⟨a,cap,cc,base,arr,e,rfl,hc,hsp,hcap,hμ,hoff,hw,hsz,hcs⟩:=qjg hs hk hr;by_cases hwr:k.wr=true
    ·rw[if_pos hwr]at h2;subst h2;have st:=Step.freeze (n0:=n0) hs hμ hk hwr;exact⟨_,st,.p (qaes hs hk ha hfit hr (st.keep hs) (fun c' base' hc' hm=>by rw[hμ]at hc';injection hc' with hc';injection hc' with hc' _;exact hm.2 hc'.symm)),by simp⟩
    ·rw[if_neg hwr]at h2;subst h2;exact⟨M,.refl hs,.p (qaes hs hk ha hfit hr (Keep.refl w M) (fun c' base' hc'=>(hs.blk b c' base' z k hc' hk).hF (by simpa using hwr))),rfl⟩
   ·cases h
  ·cases h
 |agg cs=>simp[frzC]at h
 |tup cs=>simp[frzC]at h
 |bool b=>exact same rfl rfl
 |int k n=>exact same rfl rfl
 |str s=>exact same rfl rfl
 |sl l=>exact same rfl rfl
 |ptr b i o=>exact same rfl rfl
 |eptr cs=>exact same rfl rfl
 |fn g cap=>exact same rfl rfl
 |nilfn=>exact same rfl rfl
theorem qsr {n0:Nat}:∀(cs:List V) {H:Heap} {M:Nat->Prop} (_:Sim gid w M μ H) {cs':List V} {H1:Heap} (_:frzCs H cs=some (cs',H1)) {vs:List Value}
 (_:vs.length=cs.length) (_:∀(i:Nat) (v:Value) (c:V),vs[i]?=some v->cs[i]?=some c->RC gid w M μ v c),
 ∃M',Step gid n0 w M μ H w M' μ H1/\vs.length=cs'.length/\(∀(i:Nat) (v:Value) (c:V),vs[i]?=some v->cs'[i]?=some c->RC gid w M' μ v c)/\H1.length=H.length
 | [],H,M,hs,cs',H1,h,vs,hl,hr=>by
  simp only[frzCs]at h;injection h with h;injection h with h1 h2
  subst h1;subst h2;exact⟨M,.refl hs,hl,hr,rfl⟩
 |c :: cs,H,M,hs,cs',H1,h,vs,hl,hr=>by
  simp only[frzCs,Option.bind_eq_some_iff]at h;obtain⟨⟨c',Ha⟩,h1,⟨cs'',Hb⟩,h2,h3⟩:=h;injection h3 with h3;injection h3 with h3 h4
  subst h3;subst h4;cases vs with
  |nil=>simp at hl
  |cons v vs=>
   obtain⟨Ma,sa,ra,la⟩:=qps (n0:=n0) hs h1 (hr 0 v c rfl rfl);obtain⟨Mb,sb,lb,rb,lb'⟩:=qsr cs sa.sim h2 (vs:=vs) (by simpa using hl) (fun i x y hx hy=>sa.rc hs (hr (i+1) x y (by simpa using hx) (by simpa using hy)));refine⟨Mb,sa.trans sb,by simp[lb],fun i x y hx hy=>?_,lb'.trans la⟩;cases i with
   |zero=>simp at hx hy;subst hx;subst hy;exact sb.rc sa.sim ra
   |succ i=>exact rb i x y (by simpa using hx) (by simpa using hy)
theorem qmc {n0:Nat}(hs:Sim gid w M μ H){c c':V}{H1:Heap}(h:frzV H c=some (c',H1)){v:Value}(hr:R gid w M μ v c) :
 ∃M',Step gid n0 w M μ H w M' μ H1/\R gid w M' μ v c'/\H1.length=H.length:=by
 cases hr with
 |c hr=>
  have h':frzC H c=some (c',H1):=by
   have:=hr.isCell;cases c<;>first|exact h|cases this
  obtain⟨M',s,r,l⟩:=qps (n0:=n0) hs h' hr;exact⟨M',s,.c r,l⟩
 |agg arr cs hsz hr=>
  simp only[frzV,Option.bind_eq_some_iff]at h;obtain⟨⟨cs',Ha⟩,h1,h2⟩:=h;injection h2 with h2;injection h2 with h2 h3
  subst h2;subst h3;obtain⟨M',s,l,r,l'⟩:=qsr (n0:=n0) cs hs h1 (vs:=arr.toList) (by simpa using hsz) (fun i x y hx hy=>hr i x y (by simpa using hx) hy);exact⟨M',s,.agg arr cs' (by simpa using l) (fun i x y hx hy=>r i x y (by simpa using hx) hy),l'⟩
 |tup arr vs hsz hr=>simp[frzV,frzC]at h
def Rs (gid:Gid)(w:World)(M:Nat->Prop)(μ:Inj)(vs:List Value)(cs:List V):Prop:=
 vs.length=cs.length/\∀(i:Nat) (v:Value) (c:V),vs[i]?=some v->cs[i]?=some c->R gid w M μ v c
theorem Rs.cons {v:Value}{c:V}{vs:List Value}{cs:List V}(h:R gid w M μ v c)(hs:Rs gid w M μ vs cs):Rs gid w M μ (v :: vs) (c :: cs):=
 ⟨by simp[hs.1],fun i x y hx hy=>by
  cases i with
  |zero=>simp at hx hy;subst hx;subst hy;exact h
  |succ i=>exact hs.2 i x y (by simpa using hx) (by simpa using hy)⟩
theorem Rs.tail {v:Value}{c:V}{vs:List Value}{cs:List V}(hs:Rs gid w M μ (v :: vs) (c :: cs)):R gid w M μ v c/\Rs gid w M μ vs cs:=
 ⟨hs.2 0 v c rfl rfl,by simpa using hs.1,fun i x y hx hy=>hs.2 (i+1) x y (by simpa using hx) (by simpa using hy)⟩
theorem Rs.step {n0:Nat}{w':World}{M':Nat->Prop}{μ':Inj}{H':Heap}(st:Step gid n0 w M μ H w' M' μ' H')(hs:Sim gid w M μ H){vs:List Value}{cs:List V}(h:Rs gid w M μ vs cs):Rs gid w' M' μ' vs cs:=
 ⟨h.1,fun i x y hx hy=>st.r hs (h.2 i x y hx hy)⟩
theorem qm7 {n0:Nat}:∀(cs:List V) {H:Heap} {M:Nat->Prop} (_:Sim gid w M μ H) {cs':List V} {H1:Heap} (_:frzVs H cs=some (cs',H1)) {vs:List Value} (_:Rs gid w M μ vs cs),
 ∃M',Step gid n0 w M μ H w M' μ H1/\Rs gid w M' μ vs cs'/\H1.length=H.length
 | [],H,M,hs,cs',H1,h,vs,hr=>by
  simp only[frzVs]at h;injection h with h;injection h with h1 h2
  subst h1;subst h2;exact⟨M,.refl hs,hr,rfl⟩
 |c :: cs,H,M,hs,cs',H1,h,vs,hr=>by
  simp only[frzVs,Option.bind_eq_some_iff]at h;obtain⟨⟨c',Ha⟩,h1,⟨cs'',Hb⟩,h2,h3⟩:=h;injection h3 with h3;injection h3 with h3 h4
  subst h3;subst h4;cases vs with
  |nil=>have:=hr.1;simp at this
  |cons v vs=>
   obtain⟨Ma,sa,ra,la⟩:=qmc (n0:=n0) hs h1 hr.tail.1;obtain⟨Mb,sb,rb,lb⟩:=qm7 cs sa.sim h2 (Rs.step sa hs hr.tail.2);exact⟨Mb,sa.trans sb,Rs.cons (sb.r sa.sim ra) rb,lb.trans la⟩
theorem qk7 {n0:Nat}(hs:Sim gid w M μ H){c c':V}{H1:Heap}(h:qbv H c=some (c',H1)){v:Value}(hr:R gid w M μ v c) :
 ∃M',Step gid n0 w M μ H w M' μ H1/\R gid w M' μ v c'/\c'.pure=true/\H1.length=H.length:=by
 simp only[qbv,Option.bind_eq_some_iff]at h;obtain⟨⟨c1,Ha⟩,h1,h2⟩:=h;simp only[]at h2;split at h2
 ·rename_i hp;injection h2 with h2;injection h2 with h2 h3
  subst h2;subst h3;obtain⟨M',s,r,l⟩:=qmc (n0:=n0) hs h1 hr;exact⟨M',s,r,hp,l⟩
 ·cases h2
theorem qjv {n0:Nat}:∀(cs:List V) {H:Heap} {M:Nat->Prop} (_:Sim gid w M μ H) {cs':List V} {H1:Heap} (_:qce H cs=some (cs',H1)) {vs:List Value} (_:Rs gid w M μ vs cs),
 ∃M',Step gid n0 w M μ H w M' μ H1/\Rs gid w M' μ vs cs'/\(∀c ∈ cs',c.pure=true)/\H1.length=H.length
 | [],H,M,hs,cs',H1,h,vs,hr=>by
  simp only[qce]at h;injection h with h;injection h with h1 h2
  subst h1;subst h2;exact⟨M,.refl hs,hr,by simp,rfl⟩
 |c :: cs,H,M,hs,cs',H1,h,vs,hr=>by
  simp only[qce,Option.bind_eq_some_iff]at h;obtain⟨⟨c',Ha⟩,h1,⟨cs'',Hb⟩,h2,h3⟩:=h;injection h3 with h3;injection h3 with h3 h4
  subst h3;subst h4;cases vs with
  |nil=>have:=hr.1;simp at this
  |cons v vs=>
   obtain⟨Ma,sa,ra,pa,la⟩:=qk7 (n0:=n0) hs h1 hr.tail.1;obtain⟨Mb,sb,rb,pb,lb⟩:=qjv cs sa.sim h2 (Rs.step sa hs hr.tail.2);refine⟨Mb,sa.trans sb,Rs.cons (sb.r sa.sim ra) rb,fun x hx=>?_,lb.trans la⟩;rcases List.mem_cons.1 hx with rfl|hx
   ·exact pa
   ·exact pb x hx
end Go.Abs
namespace Go.Abs
variable {gid : Gid} {w w0 : World} {M M0 : Nat → Prop} {μ μ0 : Inj} {H H0 : Heap} {n0 : Nat}
theorem Low.mono {n m:Nat}(h:n<=m){a:V}(hl:Low n a):Low m a:=by
 induction hl with
 |cell h=>exact .cell h
 |ref b z off len hb=>exact .ref _ _ _ _ (by omega)
 |ptr b i off hb=>exact .ptr _ _ _ (by omega)
 |fn g cs _ ih=>exact .fn g cs ih
theorem Sim.lowH (hs:Sim gid w M μ H){n:Nat}(hn:H.length<=n):LowH n μ H:=by
 intro b k hb hm hk el hel c hc;obtain⟨⟨cc,o,z⟩,hx⟩:=Option.ne_none_iff_exists'.1 hm;obtain⟨arr,et,l1,l2,l3⟩:=(hs.blk b cc o z k hx hk).lay;obtain⟨i,hi⟩:=List.getElem?_of_mem hel;obtain⟨j,hj⟩:=List.getElem?_of_mem hc;obtain⟨v,_,hr⟩:=(l3 i el hi).2.2 j c hj;exact(hr.toLow fun b x h=>hs.dom b x h).mono hn
theorem R.pureAny {v:Value}{c:V}(h:R gid w M μ v c)(hp:c.pure=true)(μ':Inj):R gid w M μ' v c:=by
 cases h with
 |c h=>exact .c (.p (h.pure (by
  have:=h.isCell;unfold V.pure at hp;rw[V.cells_cell this]at hp;simpa using hp)))
 |agg arr cs hsz hr=>exact .agg arr cs hsz fun i x y hx hy=>.p ((hr i x y hx hy).pure (List.all_eq_true.1 hp y (List.mem_of_getElem? hy)))
 |tup=>simp[V.pure,V.cells,V.cellPure]at hp
def qgo (n0 L m:Nat)(μ:Inj):Inj:=fun b=>if b<n0 then μ b else if b<n0+m then μ (b-n0+L)else none
theorem Step.drop {A J B:Heap}(st:Step gid n0 w0 M0 μ0 H0 w M μ (A++J++B))(hA:A.length=n0)(h0:H0.length=n0)(hlow:LowH n0 μ0 H0)
 (hB:∀k,some k ∈ B->k.arr=true):Step gid n0 w0 M0 μ0 H0 w M (qgo n0 (n0+J.length) B.length μ) (A++B):=by
 have hs:=st.sim;have hl:=st.low n0 (Nat.le_refl _) hlow;have getA:∀b,b<n0->(A++J++B)[b]?=(A++B)[b]?:=by
  intro b hb;rw[List.append_assoc,List.getElem?_append_left (by omega),List.getElem?_append_left (by omega)]
 have getB:∀b,n0<=b->(A++J++B)[b-n0+(n0+J.length)]?=(A++B)[b]?:=by
  intro b hb;rw[List.getElem?_append_right (by simp;omega),List.getElem?_append_right (by omega)]
  congr 1
  simp;omega
 have inv:∀b x,qgo n0 (n0+J.length) B.length μ b=some x->(b<n0/\μ b=some x)\/(n0<=b/\b<n0+B.length/\μ (b-n0+(n0+J.length))=some x):=by
  intro b x h;unfold qgo at h;split at h
  ·exact .inl ⟨by assumption,h⟩
  ·split at h
   ·exact .inr ⟨by omega,by assumption,h⟩
   ·cases h
 have big:∀b x,qgo n0 (n0+J.length) B.length μ b=some x->∃b',μ b'=some x/\(A++J++B)[b']?=(A++B)[b]?/\(b<n0/\b'=b\/n0<=b/\b'=b-n0+(n0+J.length)):=by
  intro b x h;rcases inv b x h with ⟨h1,h2⟩|⟨h1,h2,h3⟩
  ·exact⟨b,h2,getA b h1,.inl ⟨h1,rfl⟩⟩
  ·exact⟨_,h3,getB b h1,.inr ⟨h1,rfl⟩⟩
 refine⟨⟨?_,?_,?_,st.sim.tab⟩,?_,by simp;omega,st.size,st.frame,st.shape,st.sub,st.keepM,?_,?_,?_,?_,st.os,st.tape,st.output⟩
 ·intro b x h;rcases inv b x h with ⟨h1,_⟩|⟨_,h2,_⟩<;>simp<;>omega
 ·intro b1 b2 c o z o' z' h1 h2 ⟨k1,a1⟩ ⟨k2,a2⟩;obtain⟨q1,g1,g2,g3⟩:=big b1 _ h1;obtain⟨q2,g4,g5,g6⟩:=big b2 _ h2;have:=hs.inj q1 q2 c o z o' z' g1 g4 ⟨k1,by rw[g2];exact a1⟩ ⟨k2,by rw[g5];exact a2⟩;omega
 ·intro b c o z k h1 h2;obtain⟨q,g1,g2,g3⟩:=big b _ h1;have hk:=hs.blk q c o z k g1 (by rw[g2];exact h2);obtain⟨arr,e,l1,l2,l3⟩:=hk.lay;refine⟨hk.hz,hk.hM,hk.hF,⟨arr,e,l1,l2,fun i el hi=>?_⟩,hk.pur⟩;obtain⟨h3,h4,h5⟩:=l3 i el hi;refine⟨h3,h4,fun j cv hj=>?_⟩;obtain⟨v,hv,hr⟩:=h5 j cv hj;refine⟨v,hv,?_⟩;rcases g3 with ⟨g3,g4⟩|⟨g3,g4⟩
  ·subst g4;have:=hl q k g3 (by rw[g1];simp) (by rw[g2];exact h2) el (List.mem_of_getElem? hi) cv (List.mem_of_getElem? hj);exact hr.low (Keep.refl w M) (Shape.refl w) (n:=n0) (fun b x hb hx=>by unfold qgo;rw[if_pos hb];exact hx) this
  ·have hka:k.arr=true:=hB k (by
    rw[List.getElem?_append_right (by omega)]at h2;exact List.mem_of_getElem? h2)
   exact .p (hr.pure (quu (hk.pur hka el (List.mem_of_getElem? hi)) hj))
 ·intro b hb;unfold qgo;rw[if_pos (by omega)];exact st.ext b hb
 ·intro b c o z hb h1;rcases inv b _ h1 with ⟨h2,_⟩|⟨h2,h3,h4⟩
  ·omega
  ·exact st.fresh _ c o z (by omega) h4
 ·intro b hb ⟨k,h1,h2⟩;exact st.wrmono b hb ⟨k,by rw[getA b (by omega)];exact h1,h2⟩
 ·intro b hb ⟨k,h1⟩;exact st.alv b hb ⟨k,by rw[getA b (by omega)];exact h1⟩
 ·intro n hn hl' b k h1 h2 h3;refine st.low n hn hl' b k h1 ?_ (by rw[getA b (by omega)];exact h3);unfold qgo at h2;rw[if_pos (by omega)]at h2;exact h2
theorem Step.take (st:Step gid n0 w0 M0 μ0 H0 w M μ H)(h0:H0.length=n0)(hlow:LowH n0 μ0 H0):∃μ',Step gid n0 w0 M0 μ0 H0 w M μ' (H.take n0):=by
 have hl:=st.len;have e:H=H.take n0++H.drop n0++[]:=by simp
 have st':Step gid n0 w0 M0 μ0 H0 w M μ (H.take n0++H.drop n0++[]):=by rw[<-e];exact st
 have:=Step.drop st' (by simp;omega) h0 hlow (by simp);rw[List.append_nil]at this;exact⟨_,this⟩
end Go.Abs
namespace Go.Abs
def cCell : Value->Option V
 | .bool b=>some (.bool b)
 | .int k n=>some (.int k n)
 | .string s=>some (.str s)
 | .slice none 0 0=>some .nil
 | .nilFunc=>some .nilfn
 |_=>none
def qz9 : List Value->Option (List V)
 | []=>some []
 |v :: vs=>(cCell v).bind fun c=>(qz9 vs).bind fun cs=>some (c :: cs)
def cV : Value->Option V
 | .agg cs=>(qz9 cs.toList).map .agg
 |v=>cCell v
structure Tab where
 P:Program
 gid:Gid
def cX (T:Tab):Operand->Option X
 | .tmp t=>some (.t t)
 | .const v=>(cV v).map .c
 | .func f=>(T.gid f).map .f
 | .global g=>(T.gid.tabs g).map fun cs=>.c (.eptr cs)
def cXs (T:Tab):List Operand->Option (List X)
 | []=>some []
 |x :: xs=>(cX T x).bind fun c=>(cXs T xs).bind fun cs=>some (c :: cs)
def cOX (T:Tab):Option Operand->Option (Option X)
 |none=>some none
 |some x=>(cX T x).map some
def aggT (P:Program)(t:TypeId):Option Bool:=
 match P.underlying t with
 |some (.struct _)|some (.array _ _)=>some true
 |some _=>some false
 |none=>none
def szT (P:Program)(t:TypeId):Option Nat:=(P.info? t).map (·.size)
def zeroT (P:Program)(t:TypeId):Option V:=((P.info? t).bind (·.zero)).bind cV
def qem (P:Program)(t:TypeId):Option TypeId:=
 match P.underlying t with
 |some (.slice e)=>some e
 |_=>none
def isInt (P:Program)(t:TypeId):Bool:=
 match P.underlying t with
 |some (.int _)=>true
 |_=>false
def qsw (rec:TypeId->Option Nat):List Field->Nat->Option Nat
 | [],o=>some o
 | f :: fs, o => if f.name ≠ "_" ∧ f.offset = o then (rec f.type).bind fun z => qsw rec fs (o + z) else none
def flatT (P:Program):Nat->TypeId->Option Nat
 |0,_=>none
 |d+1,t=>
  match P.underlying t with
  |some (.int _)=>some 1
  |some (.struct fs)=>if P.stoodInHeld t=true then none else(qsw (flatT P d) fs.toList 0).bind fun n=>if szT P t=some n then some n else none
  |_=>none
def bkT (P:Program)(t:TypeId):Option BK:=
 match P.underlying t with
 |some (.int _)=>some .num
 |some .bool=>some .bool
 |some (.slice _)=>some .slice
 |some (.struct _)=>if P.eqGuardType P.depth t=true then none else(flatT P 8 t).map .ints
 |_=>none
def qqn (T:Tab)(place:Nat->Option (Nat × Nat)):List (Nat × Operand)->Option (List (Nat × Nat × X))
 | []=>some []
 | (i,x) :: ps=>(place i).bind fun(off,size)=>(cX T x).bind fun c=>(qqn T place ps).bind fun cs=>some ((off,size,c) :: cs)
def qtn (T:Tab):List (Nat × Operand)->Option (List (Nat × X))
 | []=>some []
 | (i,x) :: ps=>(cX T x).bind fun c=>(qtn T ps).bind fun cs=>some ((i,c) :: cs)
def qhb (P:Program)(fs:Array Field)(i:Nat):Option (Nat × Nat):=
 match fs[i]? with
 |some f=>(szT P f.type).map fun z=>(f.offset,z)
 |none=>none
def qadx (P:Program)(fs:List Field):Bool:=fs.all fun f=>(szT P f.type).isSome
def cOp (T:Tab)(op:Op):Option AOp:=
 let P:=T.P
 match op with
 | .move x| .assign x=>(cX T x).map .mv
 | .pick c a b=>(cX T c).bind fun c=>(cX T a).bind fun a=>(cX T b).map fun b=>.pick c a b
 | .alloc t=>(zeroT P t).bind fun v=>(szT P t).bind fun z=>if v.cells.length=z then some (.new z v)else none
 | .box t x=>(szT P t).bind fun z=>(cX T x).map fun x=>.box z x
 | .build t ps=>
  match P.underlying t with
  |some (.struct fs)=>if qadx P fs.toList then(zeroT P t).bind fun z=>(qqn T (qhb P fs) ps.toList).map fun ps=>.build z.cells ps else none
  |some (.array _ e)=>(zeroT P t).bind fun z=>(szT P e).bind fun s=>(qqn T (fun i=>some (i*s,s)) ps.toList).map fun ps=>.build z.cells ps
  |_=>none
 | .buildSlice t len ps=>
  (qem P t).bind fun e=>(zeroT P e).bind fun v=>(szT P e).bind fun z=>(qtn T ps.toList).bind fun ps=>
   if v.cells.length=z/\0<z/\len*z<=16777216 then some (.bslice z len v ps)else none
 | .load t x=>(aggT P t).bind fun ag=>(szT P t).bind fun z=>(cX T x).map fun x=>.load ag z x
 | .store t a x=>(szT P t).bind fun z=>(cX T a).bind fun a=>(cX T x).map fun x=>.store z a x
 | .binOp op t x y _=>(bkT P t).bind fun bk=>(cX T x).bind fun x=>(cX T y).map fun y=>.bin bk op x y
 | .unOp op _ x=>(cX T x).map fun x=>.un op x
 | .convert src dst x=>
  match P.underlying src,P.underlying dst with
  |some _,some (.int k)=>(cX T x).map fun x=>.conv k x
  |_,_=>none
 | .makeFunc (.func f) first caps=>if first.size=0 then(T.gid f).bind fun g=>(cXs T caps.toList).map fun cs=>.mkfn g cs else none
 | .makeSlice t l c=>
  (qem P t).bind fun e=>(zeroT P e).bind fun v=>(szT P e).bind fun z=>(P.info? e).bind fun i=>(cX T l).bind fun l=>(cX T c).bind fun c=>
   if v.cells.length=z/\0<z then some (.mkslice z i.bytes v.soft l c)else none
 | .slice t x lo hi mx=>
  (qem P t).bind fun e=>(szT P e).bind fun z=>(cX T x).bind fun x=>(cOX T lo).bind fun lo=>(cOX T hi).bind fun hi=>(cOX T mx).bind fun mx=>
   if mx.isSome/\hi.isNone then none else some (.slice z x lo hi mx)
 | .fieldAddr s x f=>
  match P.underlying s with
  |some (.struct fs)=>
   (fs[f]?).bind fun f=>(szT P f.type).bind fun z=>(cX T x).bind fun x=>if z=0 then none else some (.faddr f.offset x)
  |_=>none
 | .field t x f=>
  match P.underlying t with
  |some (.struct fs)=>(fs[f]?).bind fun f=>(aggT P f.type).bind fun ag=>(szT P f.type).bind fun z=>(cX T x).map fun x=>.field ag f.offset z x
  |_=>none
 | .indexAddr t x i=>
  match P.underlying t with
  |some (.slice e)=>(szT P e).bind fun z=>(cX T x).bind fun x=>(cX T i).map fun i=>.iaddr z x i
  |some (.array n e)=>(szT P e).bind fun z=>(cX T x).bind fun x=>(cX T i).map fun i=>.aiaddr n z x i
  |_=>none
 | .index t x i=>
  match P.underlying t with
  |some (.array n e)=>(aggT P e).bind fun ag=>(szT P e).bind fun z=>(cX T x).bind fun x=>(cX T i).map fun i=>.index ag n z x i
  |some .string=>(cX T x).bind fun x=>(cX T i).map fun i=>.sindex x i
  |_=>none
 | .extract x i=>(cX T x).map fun x=>.extract i x
 | .call { callee:=.builtin .len,args,argTypes }=>
  match args.toList,argTypes[0]? with
  | [x],some t=>
   match P.underlying t with
   |some (.slice _)=>(cX T x).map fun x=>.len x
   |some (.array n _)=>(cX T x).map fun x=>.lenc n x
   |_=>none
  |_,_=>none
 | .call { callee:=.builtin .cap,args,argTypes }=>
  match args.toList,argTypes[0]? with
  | [x],some t=>
   match P.underlying t with
   |some (.slice _)=>(cX T x).map fun x=>.capn x
   |_=>none
  |_,_=>none
 | .call { callee:=.builtin .append,args,argTypes }=>
  match args.toList,argTypes.toList with
  | [x,y],[t,u]=>
   if isInt P u then
    (qem P t).bind fun e=>(szT P e).bind fun z=>(P.info? e).bind fun i=>(zeroT P e).bind fun v=>(cX T x).bind fun x=>(cX T y).bind fun y=>
     if 0<z/\v.cells.length=z/\0<i.bytes then some (.appendZ z i.bytes v x y)else none
   else
   (qem P t).bind fun e=>(qem P u).bind fun _=>(szT P e).bind fun z=>(P.info? e).bind fun i=>(zeroT P e).bind fun v=>(cX T x).bind fun x=>(cX T y).bind fun y=>
    if 0<z/\v.cells.length=z/\0<i.bytes then some (.append z i.bytes x y)else none
  |_,_=>none
 | .call { callee:=.builtin .copy,args,argTypes }=>
  match args.toList,argTypes.toList with
  | [x,y],[t,_]=>
   (qem P t).bind fun e=>(szT P e).bind fun z=>(cX T x).bind fun x=>(cX T y).bind fun y=>if 0<z then some (.copy z x y)else none
  |_,_=>none
 | .call { callee:=.builtin .min,args,.. }=>
  match args.toList with
  | [x,y]=>(cX T x).bind fun x=>(cX T y).map fun y=>.min x y
  |_=>none
 | .call { callee:=.builtin .max,args,.. }=>
  match args.toList with
  | [x,y]=>(cX T x).bind fun x=>(cX T y).map fun y=>.max x y
  | [x,y,z]=>(cX T x).bind fun x=>(cX T y).bind fun y=>(cX T z).map fun z=>.max3 x y z
  |_=>none
 | .call { callee:=.value f,args,.. }=>(cX T f).bind fun f=>(cXs T args.toList).map fun q=>.call f q
 |_=>none
def AOp.loud : AOp->Bool
 | .box .. | .new .. | .bslice .. | .load .. | .store .. | .storeN .. | .mkslice .. | .append .. | .appendZ .. | .copy .. | .call ..=>true
 |_=>false
def X.reads : X->List Nat
 | .t i=>[i]
 |_=>[]
def OX.reads : Option X->List Nat
 |some x=>x.reads
 |none=>[]
def AOp.reads : AOp->List Nat
 | .mv x| .box _ x| .load _ _ x| .un _ x| .conv _ x| .faddr _ x| .field _ _ _ x| .extract _ x| .len x| .lenc _ x| .capn x=>x.reads
 | .pick c a b=>c.reads++a.reads++b.reads
 | .new ..=>[]
 | .build _ ps=>ps.flatMap fun p=>p.2.2.reads
 | .bslice _ _ _ ps=>ps.flatMap fun p=>p.2.reads
 | .plit _ _ _ ps=>ps.flatMap fun p=>p.2.reads
 | .sload _ _ t=>[t]
 | .storeN _ a x _=>a.reads++x.reads
 | .store _ a x| .bin _ _ a x| .mkslice _ _ _ a x| .iaddr _ a x| .aiaddr _ _ a x| .index _ _ _ a x| .sindex a x| .append _ _ a x| .appendZ _ _ _ a x| .copy _ a x| .min a x| .max a x=>a.reads++x.reads
 | .mkfn _ cs=>cs.flatMap X.reads
 | .max3 x y z=>x.reads++y.reads++z.reads
 | .slice _ x lo hi mx=>x.reads++OX.reads lo++OX.reads hi++OX.reads mx
 | .call x q=>x.reads++q.flatMap X.reads
def AOper.reads (o:AOper):List Nat:=
 o.op.reads++(match o.guard with|some (t,_)=>[t] |none=>[])
def qjn (bits:List Nat)(after:List Edge):Nat:=
 after.foldl (fun s e=>if Region.binds .any e then s |||2^e.on |||bits.getD e.on 0 else s) 0
def qba : List Oper->List Nat->List Nat
 | [],acc=>acc
 |o :: os,acc=>qba os (acc++[qjn acc o.after.toList])
def qhc (i:Nat)(o:Oper):Bool:=o.after.toList.all fun e=>!Region.binds .any e ||decide (e.on<i)
def qn6 (a b:AOper):Bool:=
 (match a.dst with
  |some d=>b.reads.contains d ||b.dst == some d
  |none=>false) ||
 (match b.dst with
  |some d=>a.reads.contains d
  |none=>false)
def qb7 (bits:List Nat)(i j:Nat):Bool:=(bits.getD j 0).testBit i
def isApp : AOp->Bool
 | .append ..=>true
 |_=>false
def q7p (bits:List Nat)(i j:Nat)(a b:AOper):Bool:=
 (match a.op with
  | .sload _ _ t=>b.dst != some t&&(!(b.sync&&b.op.loud) ||qb7 bits i j || (match b.op with| .storeN _ _ _ av=>av.contains t|_=>false))
  |_=>true) &&
 (match b.op with
  | .sload ..=>!(a.sync&&a.op.loud) ||qb7 bits i j ||isApp a.op
  |_=>true)
def quw (bits:List Nat)(i j:Nat)(a b:AOper):Bool:=
 q7p bits i j a b&&(!qn6 a b ||qb7 bits i j)&&(!((a.sync&&b.op.loud) || (b.sync&&a.op.loud)) ||qb7 bits i j)
def q7x (a:AOper):Bool:=
 match a.op with
 | .sload _ _ t=>a.dst != some t
 |_=>true
def qvb (bits:List Nat)(l:List AOper):Bool:=
 l.all q7x&&(List.range l.length).all fun j=>(List.range j).all fun i=>
  match l[i]?,l[j]? with
  |some a,some b=>quw bits i j a b
  |_,_=>false
def AOp.turns : AOp->Bool
 | .bslice .. | .store .. | .storeN .. | .append .. | .appendZ .. | .copy .. | .call ..=>true
 |_=>false
def qag9 : AOp->Bool
 | .sload ..=>true
 |_=>false
def q26 : AOp->AOp->Bool
 | .storeN _ _ _ av,.sload _ _ t=>av.contains t
 |_,_=>false
def qx1 (late:Bool)(bits:List Nat)(l:List AOper)(i:Nat)(o:AOper):Bool:=
 o.op.turns&&(List.range l.length).all fun j=>
  if j=i then true else
  match l[j]? with
  |some b=>!(b.op.loud || (late&&qag9 b.op&&!q26 o.op b.op)) || (if j<i then qb7 bits j i else qb7 bits i j)
  |none=>false
def qag8 : AOp->Bool
 | .store ..=>true
 |_=>false
def qae4 (bits:List Nat)(l:List AOper)(i:Nat)(o:AOper):Option Nat:=
 match o.op with
 | .load _ _ (.t t)=>if(List.range l.length).any fun j=>decide (i<j)&&(match l[j]? with|some b=>qag8 b.op|none=>false)&&!qb7 bits i j then some t else none
 |_=>none
def qy1 : X->Bool
 | .c (.int _ _)=>true
 |_=>false
def litOf : AOp->Option (List V)
 | .bslice z len zero parts=>
  if(zero.cells.length=z/\zero.pure=true)/\parts.all (fun p=>qy1 p.2)=true then
   (fillE z (List.replicate len zero) (parts.map fun p=>(p.1,getX (fun _=>.undef) p.2))).bind fun el=>if 0+len<=el.length then some ((el.drop 0).take len)else none
  else none
 |_=>none
def litAt (bits:List Nat)(l:List AOper)(o:AOper):Bool:=
 match o.dst with
 |some d=>(List.range l.length).any fun k=>match l[k]? with
  |some b=>(match b.op with| .call _ _=>b.reads.contains d&&!qx1 false bits l k b|_=>false)
  |none=>false
 |none=>false
def q27 (bits:List Nat)(l:List AOper)(i:Nat)(o:AOper):AOp:=
 match o.op with
 | .load ag z (.t t)=>if(qae4 bits l i o).isSome then .sload ag z t else .load ag z (.t t)
 | .store z a x=>
  match (List.range i).filterMap fun k=>(l[k]?).bind fun b=>if qb7 bits k i then none else qae4 bits l k b with
  | []=>.store z a x
  |av=>.storeN z a x av
 | .bslice z len zero parts=>
  match litOf (.bslice z len zero parts)with
  |some els=>if litAt bits l o then .mv (.c (.sl els))else .bslice z len zero parts
  |none=>.bslice z len zero parts
 |op=>op
def qx9 (bits:List Nat)(l:List AOper):List AOper:=l.mapIdx fun i o=>{ o with op:=q27 bits l i o }
def cOper (T:Tab)(ops:Array Oper)(o:Oper):Option AOper:=
 (cOp T o.op).bind fun op=>
  match o.guard with
  |none=>some ⟨o.dst,op,none,false⟩
  |some (j,want)=>((ops[j]?).bind (·.dst)).map fun t=>⟨o.dst,op,some (t,want),false⟩
def qvl (T:Tab)(ops:Array Oper):List Oper->Option (List AOper)
 | []=>some []
 |o :: os=>(cOper T ops o).bind fun a=>(qvl T ops os).bind fun q=>some (a :: q)
def qqm (n:Nat)(l:List AOper):Bool:=l.all fun o=>match o.dst with|some d=>decide (d<n)|none=>true
def qm8 (late:Bool)(bits:List Nat)(l:List AOper):List AOper:=(qx9 bits l).mapIdx fun i o=>{ o with sync:=qx1 late bits (qx9 bits l) i o }
def qahl (bits:List Nat)(l:List AOper)(i:Nat):Bool:=(List.range i).any fun j=>match l[j]? with|some b=>isApp b.op&&!qb7 bits j i|none=>false
def qak8 (l:List AOper)(o:AOper):Bool:=
 match o.dst with
 |some d=>l.any fun b=>isApp b.op&&b.reads.contains d
 |none=>false
def qvz (bits:List Nat)(l:List AOper)(i:Nat)(o:AOper):AOp:=
 match o.op with
 | .load ag z (.t t)=>if qahl bits l i then .sload ag z t else .load ag z (.t t)
 | .bslice z len zero parts=>if qak8 l o then .plit z len zero parts else .bslice z len zero parts
 |op=>op
def qrm (bits:List Nat)(l:List AOper):List AOper:=l.mapIdx fun i o=>{ o with op:=qvz bits l i o }
def qov (bits:List Nat)(l:List AOper):List AOper:=(qrm bits l).mapIdx fun i o=>{ o with sync:=qx1 false bits (qrm bits l) i o }
def qacr (l:List AOper):Bool:=decide (2<=(l.filter fun o=>isApp o.op).length)
def qer (bits:List Nat)(l:List AOper):List AOper:=if(qacr l&&qvb bits (qov bits l))=true then qov bits l else if qvb bits (qm8 false bits l)then qm8 false bits l else qm8 true bits l
def qtl (T:Tab)(n:Nat)(ops:Array Oper)(draw:Bool):Option AC:=
 (qvl T ops ops.toList).bind fun l=>
  if qqm n l then
   if draw then
    let bits:=qba ops.toList []
    let l':=qer bits l
    if((List.range ops.size).all fun i=>match ops[i]? with|some o=>qhc i o|none=>false)&&qvb bits l' then some (.region true l')else none
   else some (.region false l)
  else none
def comp (T:Tab)(n:Nat):Code->Option AC
 | .skip=>some .skip
 | .region _ ops draw=>some ((qtl T n ops draw).getD .stop)
 | .seq a b=>(comp T n a).bind fun a=>(comp T n b).map fun b=>.seq a b
 | .cond c a b=>(cX T c).bind fun c=>(comp T n a).bind fun a=>(comp T n b).map fun b=>.cond c a b
 | .block id c=>(comp T n c).map fun c=>.block id c
 | .loop c=>(comp T n c).map fun c=>.loop c
 | .scope c=>(comp T n c).map fun c=>.scope c
 | .label _=>some .skip
 | .exit id=>some (.exit id)
 | .ret=>some .ret
 |_=>some .stop
def cRV (T:Tab):ResultVar->Option RV
 | .tmp t=>some (.tmp t)
 | .cell a t=>(aggT T.P t).bind fun ag=>(szT T.P t).map fun z=>.cell a ag z
def cRVs (T:Tab):List ResultVar->Option (List RV)
 | []=>some []
 |r :: rs=>(cRV T r).bind fun c=>(cRVs T rs).bind fun cs=>some (c :: cs)
def compF (T:Tab)(f:Func):Option (List RV × AC):=
 if f.name = "runtime.NumGoroutine" then none else
 f.body.bind fun c=>(comp T f.ntmps c).bind fun c=>(cRVs T f.results.toList).map fun rs=>(rs,c)
variable {T : Tab} {w : World} {M : Nat → Prop} {μ : Inj} {H : Heap} {gid : Gid}
def ERel (gid:Gid)(w:World)(M:Nat->Prop)(μ:Inj)(tmps:Array Value)(E:Env):Prop:=∀i,R gid w M μ (tmps.getD i Go.undef) (E i)
def Out (gid:Gid)(n0:Nat)(w:World)(M:Nat->Prop)(μ:Inj)(H:Heap)(r:Result Next)(v:V)(H1:Heap):Prop:=
 ∃v' w' M' μ',(r=.ok (.value v') w'\/(r=.ok .skip w'/\v'=Go.undef))/\Step gid n0 w M μ H w' M' μ' H1/\R gid w' M' μ' v' v
theorem Out.pure {n0:Nat}(hs:Sim gid w M μ H){r:Result Next}{v:V}{v':Value}(h:r=.ok (.value v') w)(hr:R gid w M μ v' v):Out gid n0 w M μ H r v H:=
 ⟨v',w,M,μ,.inl h,.refl hs,hr⟩
theorem R.inv_bool {v:Value}{b:Bool}(h:R gid w M μ v (.bool b)):v=.bool b:=by cases h with|c h=>cases h with|p h=>cases h;rfl
theorem R.inv_int {v:Value}{k:IntKind}{n:Int}(h:R gid w M μ v (.int k n)):v=.int k n:=by cases h with|c h=>cases h with|p h=>cases h;rfl
theorem R.inv_str {v:Value}{s:ByteArray}(h:R gid w M μ v (.str s)):v=.string s:=by cases h with|c h=>cases h with|p h=>cases h;rfl
theorem R.inv_nil {v:Value}(h:R gid w M μ v .nil):v=.slice none 0 0:=by cases h with|c h=>cases h with|p h=>cases h;rfl
theorem R.inv_agg {v:Value}{cs:List V}(h:R gid w M μ v (.agg cs)):∃arr,v=.agg arr/\arr.size=cs.length/\∀(i:Nat) (x:Value) (c:V),arr[i]?=some x->cs[i]?=some c->RC gid w M μ x c:=by
 cases h with
 |c h=>have:=h.isCell;cases this
 |agg arr cs hsz hr=>exact⟨arr,rfl,hsz,hr⟩
theorem R.inv_tup {v:Value}{cs:List V}(h:R gid w M μ v (.tup cs)):∃arr,v=.tuple arr/\arr.size=cs.length/\∀(i:Nat) (x:Value) (c:V),arr[i]?=some x->cs[i]?=some c->R gid w M μ x c:=by
 cases h with
 |c h=>have:=h.isCell;cases this
 |tup arr cs hsz hr=>exact⟨arr,rfl,hsz,hr⟩
theorem R.inv_rc {v:Value}{a:V}(h:R gid w M μ v a)(hc:a.isCell=true):RC gid w M μ v a:=by
 cases h with
 |c h=>exact h
 |agg=>cases hc
 |tup=>cases hc
theorem qto {v:Value}{c:V}(h:cCell v=some c):RP gid w M v c/\c.cellPure=true:=by
 unfold cCell at h;split at h<;>first
  | (injection h with h;subst h;exact⟨.bool _,rfl⟩)
  | (injection h with h;subst h;exact⟨.int _ _,rfl⟩)
  | (injection h with h;subst h;exact⟨.str _,rfl⟩)
  | (injection h with h;subst h;exact⟨.nil,rfl⟩)
  | (injection h with h;subst h;exact⟨.nilfn,rfl⟩)
  |cases h
theorem qqr : ∀(vs:List Value) {cs:List V} (_:qz9 vs=some cs),vs.length=cs.length/\(∀(i:Nat) (v:Value) (c:V),vs[i]?=some v->cs[i]?=some c->RC gid w M μ v c)/\∀c ∈ cs,c.cellPure=true
 | [],cs,h=>by simp only[qz9]at h;injection h with h;subst h;exact⟨rfl,by simp,by simp⟩
 |v :: vs,cs,h=>by
  simp only[qz9,Option.bind_eq_some_iff]at h;obtain⟨c,h1,cs',h2,h3⟩:=h;injection h3 with h3
  subst h3;obtain⟨l,r,p⟩:=qqr vs h2;have hc:=qto (gid:=gid) (w:=w) (M:=M) h1;refine⟨by simp[l],fun i x y hx hy=>?_,fun x hx=>?_⟩
  ·cases i with
   |zero=>simp at hx hy;subst hx;subst hy;exact .p hc.1
   |succ i=>exact r i x y (by simpa using hx) (by simpa using hy)
  ·rcases List.mem_cons.1 hx with rfl|hx
   ·exact hc.2
   ·exact p x hx
theorem qft {v:Value}{c:V}(h:cV v=some c):R gid w M μ v c/\c.pure=true/\c.isTup=false:=by
 have cell:∀{v:Value},cCell v=some c->R gid w M μ v c/\c.pure=true/\c.isTup=false:=by
  intro v h;have hc:=qto (gid:=gid) (w:=w) (M:=M) h;have h2:=hc.1.isCell;refine⟨.c (.p hc.1),?_,?_⟩
  ·unfold V.pure;rw[V.cells_cell h2];simp[hc.2]
  ·cases c<;>first|rfl|cases h2
 cases v<;>first
  |exact cell h
  | (rename_i cs
     simp only[cV,Option.map_eq_some_iff]at h;obtain⟨cs',h1,rfl⟩:=h;obtain⟨l,r,p⟩:=qqr (gid:=gid) (w:=w) (M:=M) (μ:=μ) _ h1;exact⟨.agg _ _ (by simpa using l) (fun i x y hx hy=>r i x y (by simpa using hx) hy),List.all_eq_true.2 p,rfl⟩)
theorem qaj (tb:Tabs T.gid w M){x:Operand}{c:X}(h:cX T x=some c){a:Act}{E:Env}(hE:ERel T.gid w M μ a.tmps E):R T.gid w M μ (a.eval x) (getX E c):=by
 cases x with
 |tmp t=>simp only[cX]at h;injection h with h;subst h;exact hE t
 |const v=>
  simp only[cX,Option.map_eq_some_iff]at h;obtain⟨c',h1,rfl⟩:=h;exact(qft h1).1
 |func f=>
  simp only[cX,Option.map_eq_some_iff]at h;obtain⟨g,h1,rfl⟩:=h;exact .c (.p (.fn f g h1))
 |global g=>
  simp only[cX,Option.map_eq_some_iff]at h;obtain⟨cs,h1,rfl⟩:=h;exact .c (.p (tb g cs h1))
theorem qz8 (tb:Tabs T.gid w M):∀(xs:List Operand) {cs:List X} (_:cXs T xs=some cs) {a:Act} {E:Env} (_:ERel T.gid w M μ a.tmps E),Rs T.gid w M μ (xs.map a.eval) (cs.map (getX E))
 | [],cs,h,a,E,hE=>by simp only[cXs]at h;injection h with h;subst h;exact⟨rfl,by simp⟩
 |x :: xs,cs,h,a,E,hE=>by
  simp only[cXs,Option.bind_eq_some_iff]at h;obtain⟨c,h1,cs',h2,h3⟩:=h;injection h3 with h3
  subst h3;exact Rs.cons (qaj tb h1 hE) (qz8 tb xs h2 hE)
theorem qmi {P:Program}{t:TypeId}{ag:Bool}(h:aggT P t=some ag)(w:World):(isAgg t).run P w=.ok ag w:=by
 unfold aggT at h;split at h<;>first
  | (injection h with h;subst h;rename_i hu;unfold isAgg;rw[Sem.run_bind,run_underlying hu w];rfl)
  | (injection h with h;subst h;rename_i d hns hna hu;unfold isAgg;rw[Sem.run_bind,run_underlying hu w]
     cases d<;>first|rfl|exact absurd rfl (hns _)|exact absurd rfl (hna _ _))
  |cases h
theorem qk5 {P:Program}{t:TypeId}{z:Nat}(h:szT P t=some z):∃i,P.info? t=some i/\i.size=z:=by
 unfold szT at h;rw[Option.map_eq_some_iff]at h;exact h
theorem qbo {P:Program}{t:TypeId}{z:Nat}(h:szT P t=some z)(w:World):(sizeOf t).run P w=.ok z w:=by
 obtain⟨i,h1,h2⟩:=qk5 h;simp[sizeOf,typeInfo,h1,h2]
theorem qd6 {P:Program}{t:TypeId}{v:V}(h:zeroT P t=some v):∃i z,P.info? t=some i/\i.zero=some z/\cV z=some v:=by
 unfold zeroT at h;rw[Option.bind_eq_some_iff]at h;obtain⟨z,h1,h2⟩:=h;rw[Option.bind_eq_some_iff]at h1;obtain⟨i,h3,h4⟩:=h1;exact⟨i,z,h3,h4,h2⟩
theorem qgs {P:Program}{t:TypeId}{i:TypeInfo}{z:Value}(h1:P.info? t=some i)(h2:i.zero=some z)(w:World):(zeroValue t).run P w=.ok z w:=by
 simp[zeroValue,typeInfo,h1,h2]
def Cells (gid:Gid)(w:World)(M:Nat->Prop)(μ:Inj)(a:Addr)(cs:List V):Prop:=
 ∀(j:Nat) (c:V),cs[j]?=some c->∃x,w.cell? (a.add j)=some x/\RC gid w M μ x c
theorem qih {a:Addr}(h:a.spot=none)(n:Nat):a.add n=⟨a.block,a.off+n,none⟩:=by
 obtain⟨b,o,s⟩:=a;simp only at h;subst h;exact Addr.add_lit b o n
theorem qju {P:Program}{t:TypeId}{ag:Bool}{z:Nat}(hag:aggT P t=some ag)(hz:szT P t=some z){a:Addr}{cs:List V}(hc:Cells gid w M μ a cs){v:V}(h:wrapC ag z cs=some v) :
 ∃v',(loadVar t a).run P w=.ok v' w/\R gid w M μ v' v:=by
 unfold wrapC at h;cases ag with
 |true=>
  simp only[if_true]at h;split at h
  ·rename_i hle;injection h with h
   subst h;have hall:∀j,j<z->∃x,w.cell? (a.add j)=some x/\RC gid w M μ x (cs.getD j .nil):=fun j hj=>by
    have:=hc j cs[j] (List.getElem?_eq_getElem (by omega));simpa[List.getD,List.getElem?_eq_getElem (show j<cs.length by omega)]using this
   refine⟨.agg ((List.range z).map fun j=>(w.cell? (a.add j)).getD Go.undef).toArray,?_,?_⟩
   ·have hl:=run_loadCells (P:=P) w a z (fun j=>(w.cell? (a.add j)).getD Go.undef) (fun j hj=>by
     obtain⟨x,hx,_⟩:=hall j hj;simp[hx])
    simp[loadVar,Sem.run_bind,qmi hag,qbo hz,hl]
   ·refine .agg _ _ (by simp;omega) fun i x c hx hcc=>?_
    simp only[List.getElem?_toArray,List.getElem?_map,Option.map_eq_some_iff]at hx;obtain⟨j,hj,hx⟩:=hx;have hij:i<z/\j=i:=by
     rw[List.getElem?_eq_some_iff]at hj;obtain⟨h1,h2⟩:=hj;simp at h1 h2;exact⟨h1,h2.symm⟩
    obtain⟨hi,rfl⟩:=hij;obtain⟨y,hy,hr⟩:=hall j hi;rw[List.getElem?_take,if_pos hi]at hcc;rw[hy]at hx;subst hx;simpa[List.getD,hcc]using hr
  ·cases h
 |false=>
  simp only[Bool.false_eq_true,if_false]at h;obtain⟨x,hx,hr⟩:=hc 0 v h;refine⟨x,?_,.c hr⟩;rw[Addr.add_zero']at hx;simp[loadVar,Sem.run_bind,qmi hag,hx]
theorem qvj {a:Addr}{cs:List V}(h:RP gid w M (.pointer (some a)) (.eptr cs)):Cells gid w M μ a cs:=by
 cases h with
 |eptr a cs f ha hM hb hc hr=>
  intro j c hj;exact⟨f j,by rw[qih ha];exact hc j c hj,.p (hr j c hj)⟩
theorem qz7 (hs:Sim gid w M μ H){b i off c base z:Nat}{k:Blk}{e:V}(hμ:μ b=some (c,base,z))(hk:H[b]?=some (some k))(he:k.el[i]?=some e) :
 Cells gid w M μ ⟨c,base+(i*z+off),none⟩ (e.cells.drop off):=by
 obtain⟨arr,et,h1,h2,h3⟩:=(hs.blk b c base z k hμ hk).lay;intro j cv hj;rw[List.getElem?_drop]at hj;obtain⟨x,hx,hr⟩:=(h3 i e he).2.2 _ cv hj;refine⟨x,?_,hr⟩;rw[Addr.add_lit,cell_of_row w c _ arr et (0,0) h1,<-hx]
 congr 1
 omega
theorem R.inv_ptr {v:Value}{b i off:Nat}(h:R gid w M μ v (.ptr b i off)):∃c base z,μ b=some (c,base,z)/\v=.pointer (some ⟨c,base+(i*z+off),none⟩):=by
 cases h with
 |c h=>
  cases h with
  |p h=>cases h
  |ptr b i off c base z n hμ hn=>subst hn;exact⟨c,base,z,hμ,rfl⟩
theorem R.inv_eptr {v:Value}{cs:List V}(h:R gid w M μ v (.eptr cs)):∃a,v=.pointer (some a)/\RP gid w M (.pointer (some a)) (.eptr cs):=by
 cases h with
 |c h=>
  cases h with
  |p h=>cases h with|eptr a cs f ha hM hb hc hr=>exact⟨a,rfl,.eptr a cs f ha hM hb hc hr⟩
theorem ql7 (cs:List V)(off:Nat)(new:List V)(hfit:off+new.length<=cs.length)(i:Nat) :
 (qcq cs off new)[i]?=if i<off then cs[i]? else if i<off+new.length then new[i-off]? else cs[i]?:=by
 unfold qcq;rw[List.append_assoc];by_cases h1:i<off
 ·rw[if_pos h1,List.getElem?_append_left (by simp;omega),List.getElem?_take,if_pos h1]
 ·rw[if_neg h1,List.getElem?_append_right (by simp;omega)];have hl:(cs.take off).length=off:=by simp;omega
  rw[hl];by_cases h2:i<off+new.length
  ·rw[if_pos h2,List.getElem?_append_left (by omega)]
  ·rw[if_neg h2,List.getElem?_append_right (by omega),List.getElem?_drop]
   congr 1
   omega
theorem qgr (cs:List V)(off:Nat)(new:List V)(hfit:off+new.length<=cs.length):(qcq cs off new).length=cs.length:=by
 simp[qcq];omega
theorem qw3 : ∀(new:List Value) (n off:Nat) (cells:Array Value),off+n+new.length<=cells.size ->
 ((new.zipIdx n).foldl (fun(cs:Array Value) (p:Value × Nat)=>cs.setIfInBounds (off+p.2) p.1) cells).size=cells.size /\
 ∀i,((new.zipIdx n).foldl (fun(cs:Array Value) (p:Value × Nat)=>cs.setIfInBounds (off+p.2) p.1) cells)[i]? =
  if i<off+n then cells[i]? else if i<off+n+new.length then new[i-(off+n)]? else cells[i]?
 | [],n,off,cells,_=>by
  refine⟨rfl,fun i=>?_⟩;simp only[List.zipIdx_nil,List.foldl_nil,List.length_nil,Nat.add_zero];split
  ·rfl
  ·rfl
 |v :: new,n,off,cells,h=>by
  simp only[List.length_cons]at h;simp only[List.zipIdx_cons,List.foldl_cons];obtain⟨h1,h2⟩:=qw3 new (n+1) off (cells.setIfInBounds (off+n) v) (by simp;omega);refine⟨by rw[h1];simp,fun i=>?_⟩;rw[h2 i,Array.getElem?_setIfInBounds];simp only[List.length_cons];by_cases c1:i<off+n
  ·rw[if_pos (by omega),if_neg (by omega),if_pos c1]
  ·rw[if_neg c1];by_cases c2:off+n=i
   ·subst c2;rw[if_pos (by omega),if_pos rfl,if_pos (by omega),if_pos (by omega)];simp
   ·rw[if_neg (by omega),if_neg c2];have e:i-(off+n)=(i-(off+(n+1)))+1:=by omega
    by_cases c3:i<off+n+(new.length+1)
    ·rw[if_pos (by omega),if_pos c3,e,List.getElem?_cons_succ]
    ·rw[if_neg (by omega),if_neg c3]
def CsRel (gid:Gid)(w:World)(M:Nat->Prop)(μ:Inj)(arr:Array Value)(cs:List V):Prop:=
 arr.size=cs.length/\∀(i:Nat) (x:Value) (c:V),arr[i]?=some x->cs[i]?=some c->RC gid w M μ x c
theorem q9s {arr new:Array Value}{cs ncs:List V}(h:CsRel gid w M μ arr cs)(hn:CsRel gid w M μ new ncs){off:Nat}(hfit:off+ncs.length<=cs.length) :
 CsRel gid w M μ (new.zipIdx.foldl (fun cs (c,j)=>cs.setIfInBounds (off+j) c) arr) (qcq cs off ncs):=by
 have hf:=qw3 new.toList 0 off arr (by have:=h.1;have:=hn.1;simp;omega);have he:new.zipIdx.foldl (fun cs (c,j)=>cs.setIfInBounds (off+j) c) arr=(new.toList.zipIdx 0).foldl (fun(cs:Array Value) (p:Value × Nat)=>cs.setIfInBounds (off+p.2) p.1) arr:=by
  rw[<-Array.foldl_toList,Array.toList_zipIdx]
 rw[he];refine⟨by rw[hf.1,qgr cs off ncs hfit];exact h.1,fun i x c hx hc=>?_⟩;rw[hf.2 i]at hx;rw[ql7 cs off ncs hfit i]at hc;have hl:new.toList.length=ncs.length:=by simpa using hn.1
 rw[hl]at hx;simp only[Nat.add_zero]at hx;split at hx
 ·rename_i h1;rw[if_pos h1]at hc;exact h.2 i x c hx hc
 ·rename_i h1;rw[if_neg h1]at hc;split at hx
  ·rename_i h2;rw[if_pos h2]at hc;exact hn.2 _ x c (by simpa using hx) hc
  ·rename_i h2;rw[if_neg h2]at hc;exact h.2 i x c hx hc
theorem qm9 (place:Nat->Option (Nat × Nat)):∀(ps:List (Nat × Value)) (qs:List (Nat × Nat × V)) {arr:Array Value} {cs cs':List V} (_:CsRel gid w M μ arr cs)
 (_:ps.length=qs.length) (_:∀(i:Nat) (p:Nat × Value) (q:Nat × Nat × V),ps[i]?=some p->qs[i]?=some q->place p.1=some (q.1,q.2.1)/\R gid w M μ p.2 q.2.2) (_:fillC cs qs=some cs'),
 ∃arr',Instr.fill place arr ps=some arr'/\CsRel gid w M μ arr' cs'
 | [],[],arr,cs,cs',h,_,_,hf=>by simp only[fillC]at hf;injection hf with hf;subst hf;exact⟨arr,rfl,h⟩
 | [],_ :: _,_,_,_,_,hl,_,_=>by simp at hl
 |_ :: _,[],_,_,_,_,hl,_,_=>by simp at hl
 | (i,v) :: ps,(off,size,c) :: qs,arr,cs,cs',h,hl,hpq,hf=>by
  simp only[fillC]at hf;split at hf
  ·rename_i hcond;obtain⟨h1,h2,h3⟩:=hcond;obtain⟨hp,hr⟩:=hpq 0 (i,v) (off,size,c) rfl rfl;simp only at hp hr;have hcs:=hr.cells h3;have hst:=q9s h (new:=v.cells) (ncs:=c.cells) ⟨hcs.1,hcs.2⟩ (off:=off) (by omega);obtain⟨arr',h4,h5⟩:=qm9 place ps qs hst (by simpa using hl) (fun j p q hj hq=>hpq (j+1) p q (by simpa using hj) (by simpa using hq)) hf;refine⟨arr',?_,h5⟩;have e1:¬(v.cells.size≠size\/off+v.cells.size > arr.size):=by have:=h.1;rw[hcs.1];omega
   have e2:(decide (v.cells.size≠size) ||decide (off+v.cells.size > arr.size))=false:=by
    rw[<-Bool.decide_or];exact decide_eq_false e1
   simp only[Instr.fill,hp,e2];exact h4
  ·cases hf
theorem ql2 (tb:Tabs T.gid w M)(place:Nat->Option (Nat × Nat)):∀(ps:List (Nat × Operand)) {cs:List (Nat × Nat × X)} (_:qqn T place ps=some cs) {a:Act} {E:Env} (_:ERel T.gid w M μ a.tmps E),
 (ps.map fun p=>(p.1,a.eval p.2)).length=(cs.map fun p=>(p.1,p.2.1,getX E p.2.2)).length /\
 ∀(i:Nat) (p:Nat × Value) (q:Nat × Nat × V),(ps.map fun p=>(p.1,a.eval p.2))[i]?=some p->(cs.map fun p=>(p.1,p.2.1,getX E p.2.2))[i]?=some q->place p.1=some (q.1,q.2.1)/\R T.gid w M μ p.2 q.2.2
 | [],cs,h,a,E,hE=>by simp only[qqn]at h;injection h with h;subst h;exact⟨rfl,by simp⟩
 | (j,x) :: ps,cs,h,a,E,hE=>by
  simp only[qqn,Option.bind_eq_some_iff]at h;obtain⟨⟨off,size⟩,h1,c,h2,cs',h3,h4⟩:=h;injection h4 with h4
  subst h4;obtain⟨l,r⟩:=ql2 tb place ps h3 hE;refine⟨by simpa using l,fun i p q hp hq=>?_⟩;cases i with
  |zero=>simp at hp hq;subst hp;subst hq;exact⟨h1,qaj tb h2 hE⟩
  |succ i=>exact r i p q (by simpa using hp) (by simpa using hq)
end Go.Abs
namespace Go.Abs
variable {T : Tab} {w : World} {M : Nat → Prop} {μ : Inj} {H : Heap} {gid : Gid} {n0 : Nat}
theorem quz (hn:n0<=H.length)(hs:Sim gid w M μ H){v':Value}{v:V}(hr:R gid w M μ v' v)(ht:v.isTup=false)(t:TypeId) :
 ∃M' μ',Step gid n0 w M μ H (w.alloc (.cells v'.cells t)) M' μ' (H++[some ⟨v.cells.length,[v],false,true⟩]) /\
  R gid (w.alloc (.cells v'.cells t)) M' μ' (.pointer (some ⟨w.heap.size,0,none⟩)) (.ptr H.length 0 0):=by
 have hc:=hr.cells ht;refine⟨_,_,Step.alloc hn hs (Same.refl w) v'.cells t ⟨v.cells.length,[v],false,true⟩ rfl (by simp[hc.1]) (fun i el hi=>?_) (by simp),?_⟩
 ·cases i with
  |zero=>
   simp at hi;subst hi;refine⟨ht,rfl,fun j cv hj=>?_⟩;have hlt:j<v'.cells.size:=by rw[hc.1];exact(List.getElem?_eq_some_iff.1 hj).1
   exact⟨v'.cells[j],by simp[hlt],hc.2 j _ cv (by simp[hlt]) hj⟩
  |succ i=>simp at hi
 ·exact .c (.ptr _ _ _ w.heap.size 0 v.cells.length _ (by simp) (by simp))
def Lay (gid:Gid)(w:World)(M:Nat->Prop)(μ:Inj)(arr:Array Value)(z:Nat)(el:List V):Prop:=
 arr.size=el.length*z/\∀(i:Nat) (e:V),el[i]?=some e->e.isTup=false/\e.cells.length=z/\∀(j:Nat) (c:V),e.cells[j]?=some c->∃x,arr[i*z+j]?=some x/\RC gid w M μ x c
theorem q71 {i j z n m:Nat}(h:i*z+j<n*z+m)(hm:m<=z):i<n\/i=n:=by
 rcases Nat.lt_or_ge i (n+1)with h1|h1
 ·omega
 ·have:(n+1)*z<=i*z:=Nat.mul_le_mul_right _ h1;rw[Nat.add_mul]at this;omega
theorem qag7 {arr new:Array Value}{z:Nat}{el:List V}{c:V}(h:Lay gid w M μ arr z el)(hn:new.size=z)(hc:c.cells.length=z)(ht:c.isTup=false)
 (hr:∀(i:Nat) (x:Value) (y:V),new[i]?=some x->c.cells[i]?=some y->RC gid w M μ x y) {i:Nat} (hi:i<el.length) :
 Lay gid w M μ (new.zipIdx.foldl (fun cs (c,j)=>cs.setIfInBounds (i*z+j) c) arr) z (el.set i c):=by
 have hfit:i*z+z<=arr.size:=by
  rw[h.1];have:(i+1)*z<=el.length*z:=Nat.mul_le_mul_right _ hi;rw[Nat.add_mul]at this;omega
 have hf:=qw3 new.toList 0 (i*z) arr (by simp[hn];omega);have he:new.zipIdx.foldl (fun cs (c,j)=>cs.setIfInBounds (i*z+j) c) arr=(new.toList.zipIdx 0).foldl (fun(cs:Array Value) (p:Value × Nat)=>cs.setIfInBounds (i*z+p.2) p.1) arr:=by
  rw[<-Array.foldl_toList,Array.toList_zipIdx]
 rw[he];have hl:new.toList.length=z:=by simp[hn]
 refine⟨by rw[hf.1];simpa using h.1,fun k e hk=>?_⟩;by_cases hki:i=k
 ·subst hki;rw[List.getElem?_set_self hi]at hk;injection hk with hk
  subst hk;refine⟨ht,hc,fun j y hj=>?_⟩;have hjz:j<z:=by rw[<-hc];exact(List.getElem?_eq_some_iff.1 hj).1
  refine⟨new[j],?_,hr j _ y (by simp[hn,hjz]) hj⟩;rw[hf.2,hl,if_neg (by omega),if_pos (by omega)];simp[hn,hjz]
 ·rw[List.getElem?_set_ne hki]at hk;obtain⟨h1,h2,h3⟩:=h.2 k e hk;refine⟨h1,h2,fun j y hj=>?_⟩;obtain⟨x,hx,hrx⟩:=h3 j y hj;have hjz:j<z:=by rw[<-h2];exact(List.getElem?_eq_some_iff.1 hj).1
  refine⟨x,?_,hrx⟩;rw[hf.2,hl];by_cases c1:k*z+j<i*z+0
  ·rw[if_pos c1];exact hx
  ·rw[if_neg c1];by_cases c2:k*z+j<i*z+0+z
   ·rcases q71 (n:=i) (m:=z) (by omega) (Nat.le_refl _)with h4|h4
    ·have:(k+1)*z<=i*z:=Nat.mul_le_mul_right _ h4;rw[Nat.add_mul]at this;omega
    ·exact absurd h4.symm hki
   ·rw[if_neg c2];exact hx
theorem qsx {z:Nat}:∀(ps:List (Nat × Value)) (qs:List (Nat × V)) {arr:Array Value} {el el':List V} (_:Lay gid w M μ arr z el)
 (_:ps.length=qs.length) (_:∀(i:Nat) (p:Nat × Value) (q:Nat × V),ps[i]?=some p->qs[i]?=some q->p.1=q.1/\R gid w M μ p.2 q.2/\q.2.pure=true) (_:(∀e ∈ el,e.pure=true)) (_:fillE z el qs=some el'),
 ∃arr',Instr.fill (fun i=>some (i*z,z)) arr ps=some arr'/\Lay gid w M μ arr' z el'/\(∀e ∈ el',e.pure=true)/\el'.length=el.length
 | [],[],arr,el,el',h,_,_,hp,hf=>by simp only[fillE]at hf;injection hf with hf;subst hf;exact⟨arr,rfl,h,hp,rfl⟩
 | [],_ :: _,_,_,_,_,hl,_,_,_=>by simp at hl
 |_ :: _,[],_,_,_,_,hl,_,_,_=>by simp at hl
 | (i,v) :: ps,(i',c) :: qs,arr,el,el',h,hl,hpq,hp,hf=>by
  simp only[fillE]at hf;split at hf
  ·rename_i hcond;obtain⟨h1,h2⟩:=hcond;obtain⟨hi,hr,hpc⟩:=hpq 0 (i,v) (i',c) rfl rfl;simp only at hi hr hpc;subst hi;have ht:c.isTup=false:=by cases c<;>first|rfl| (simp[V.pure,V.cells,V.cellPure]at hpc)
   have hcs:=hr.cells ht;have hst:=qag7 h (new:=v.cells) (c:=c) (by rw[hcs.1];exact h1) h1 ht hcs.2 h2;obtain⟨arr',h4,h5,h6,h7⟩:=qsx ps qs hst (by simpa using hl) (fun j p q hj hq=>hpq (j+1) p q (by simpa using hj) (by simpa using hq)) (fun e he=>by
    rcases List.mem_or_eq_of_mem_set he with he|he
    ·exact hp e he
    ·rw[he];exact hpc) hf
   refine⟨arr',?_,h5,h6,by rw[h7];simp⟩;have hfit:i*z+z<=arr.size:=by
    rw[h.1];have:(i+1)*z<=el.length*z:=Nat.mul_le_mul_right _ h2;rw[Nat.add_mul]at this;omega
   have e2:(decide (v.cells.size≠z) ||decide (i*z+v.cells.size > arr.size))=false:=by
    rw[<-Bool.decide_or];exact decide_eq_false (by rw[hcs.1,h1];omega)
   simp only[Instr.fill,e2];exact h4
  ·cases hf
theorem V.soft_tup {v:V}(h:v.isTup=false):v.soft.isTup=false:=by cases v<;>first|rfl|exact h
theorem RC.soft {v:Value}{c:V}(h:RC gid w M μ v c):RC gid w M μ v c.softC:=by
 cases c
 case nil=>
  cases h with
  |p h=>cases h;exact .p .sl0
 all_goals exact h
theorem R.soft {v:Value}{c:V}(h:R gid w M μ v c):R gid w M μ v c.soft:=by
 cases h with
 |c h=>
  have:=h.isCell;cases c<;>first|exact .c h|cases this
 |agg arr cs hsz hr=>
  refine .agg arr _ (by simpa using hsz) fun i v c hv hc=>?_
  rw[List.getElem?_map]at hc;cases hq:cs[i]? with
  |none=>rw[hq]at hc;cases hc
  |some x=>
   rw[hq]at hc;injection hc with hc
   rw[<-hc];exact(hr i v x hv hq).soft
 |tup arr vs hsz hr=>exact .tup arr vs hsz hr
theorem qr4 {zv:Value}{c:V}(hr:R gid w M μ zv c)(ht:c.isTup=false){z:Nat}(hc:c.cells.length=z)(n:Nat) :
 Lay gid w M μ ((Array.range (n*z)).map fun i=>zv.cells[i%zv.cells.size]!) z (List.replicate n c):=by
 have hcs:=hr.cells ht;refine⟨by simp,fun i e hi=>?_⟩;rw[List.getElem?_replicate]at hi;split at hi
 ·rename_i hlt;injection hi with hi
  subst hi;refine⟨ht,hc,fun j y hj=>?_⟩;have hjz:j<z:=by rw[<-hc];exact(List.getElem?_eq_some_iff.1 hj).1
  have hjs:j<zv.cells.size:=by rw[hcs.1,hc];exact hjz
  have hlt2:i*z+j<n*z:=by
   have:(i+1)*z<=n*z:=Nat.mul_le_mul_right _ hlt;rw[Nat.add_mul]at this;omega
  refine⟨zv.cells[j],?_,hcs.2 j _ y (by simp[hjs]) hj⟩;have hm:(i*z+j)%zv.cells.size=j:=by rw[hcs.1,hc,Nat.add_comm,Nat.add_mul_mod_self_right];exact Nat.mod_eq_of_lt hjz
  simp[hlt2,hm,hjs]
 ·cases hi
theorem qyx (z:Array Value)(n:Nat):madeCells z n=(Array.range n).map fun i=>z[i%z.size]!:=rfl
theorem qqp (tb:Tabs T.gid w M):∀(ps:List (Nat × Operand)) {cs:List (Nat × X)} (_:qtn T ps=some cs) {a:Act} {E:Env} (_:ERel T.gid w M μ a.tmps E),
 Rs T.gid w M μ (ps.map fun p=>a.eval p.2) (cs.map fun p=>getX E p.2)/\ps.map (·.1)=cs.map (·.1)
 | [],cs,h,a,E,hE=>by simp only[qtn]at h;injection h with h;subst h;exact⟨⟨rfl,by simp⟩,rfl⟩
 | (j,x) :: ps,cs,h,a,E,hE=>by
  simp only[qtn,Option.bind_eq_some_iff]at h;obtain⟨c,h2,cs',h3,h4⟩:=h;injection h4 with h4
  subst h4;obtain⟨l,r⟩:=qqp tb ps h3 hE;exact⟨Rs.cons (qaj tb h2 hE) l,by simp[r]⟩
theorem qji (hn:n0<=H.length)(hs:Sim gid w M μ H){w1:World}(hw:Same w w1){arr:Array Value}{z:Nat}{el:List V}(h:Lay gid w M μ arr z el)(hp:∀e ∈ el,e.pure=true)
 (extra:Array Value) (e:TypeId) (l cap:Nat) (hl:l<=cap) (hcap:cap*z<=arr.size+extra.size) :
 ∃M' μ',Step gid n0 w M μ H (w1.alloc (.cells (arr++extra) e)) M' μ' (H++[some ⟨z,el,true,true⟩]) /\
  R gid (w1.alloc (.cells (arr++extra) e)) M' μ' (.slice (some ⟨w.heap.size,0,none⟩) l cap) (.ref H.length z 0 l):=by
 refine⟨_,_,Step.alloc hn hs hw (arr++extra) e ⟨z,el,true,true⟩ rfl (by simp;have:=h.1;omega) (fun i el' hi=>?_) (fun _=>hp),?_⟩
 ·obtain⟨h1,h2,h3⟩:=h.2 i el' hi;refine⟨h1,h2,fun j y hj=>?_⟩;obtain⟨x,hx,hr⟩:=h3 j y hj;exact⟨x,by rw[Array.getElem?_append_left (Array.getElem?_eq_some_iff.1 hx).1];exact hx,hr⟩
 ·refine .c (.ref _ _ _ _ w.heap.size 0 cap ⟨w.heap.size,0,none⟩ (arr++extra) e (0,0) (by simp) rfl rfl hl (.inr (by simp)) ?_ ?_)
  ·rw[<-hw.heap];exact heap_alloc_new w1 _
  ·simp;exact hcap
end Go.Abs
namespace Go.Abs
variable {T : Tab} {w : World} {M : Nat → Prop} {μ : Inj} {H : Heap} {gid : Gid} {n0 : Nat}
theorem qadu {P:Program}{t:TypeId}(h:bkT P t=some .bool):P.underlying t=some .bool:=by
 unfold bkT at h;split at h<;>first
  |assumption
  |cases h
  | (exfalso;split at h<;>simp at h)
theorem qaan {P:Program}{t:TypeId}(h:bkT P t=some .slice):∃e,P.underlying t=some (.slice e):=by
 unfold bkT at h;split at h<;>first
  |exact⟨_,by assumption⟩
  |cases h
  | (exfalso;split at h<;>simp at h)
theorem qadt {P:Program}{t:TypeId}{n:Nat}(h:bkT P t=some (.ints n)):P.eqGuardType P.depth t=false/\∃fs,P.underlying t=some (.struct fs)/\flatT P 8 t=some n:=by
 unfold bkT at h;split at h<;>first
  |cases h
  | (rename_i fs hu
     split at h
     ·cases h
     ·rename_i hg;cases hn:flatT P 8 t
      ·rw[hn]at h;cases h
      ·rw[hn]at h;injection h with h;injection h with h;subst h
       exact⟨by simpa using hg,fs,hu,rfl⟩)
abbrev K3 :=IntKind × Int × Int
def iA (p:K3):Value:=.int p.1 p.2.1
def iB (p:K3):Value:=.int p.1 p.2.2
def iE (p:K3):Bool:=p.2.1 == p.2.2
theorem quq : ∀{xs ys:List V} {r:Bool},sameI xs ys=some r->∃l:List K3,xs=l.map (fun p=>V.int p.1 p.2.1)/\ys=l.map (fun p=>V.int p.1 p.2.2)/\r=l.all iE
 | [],[],r,h=>by
  simp only[sameI]at h;injection h with h;subst h;exact⟨[],rfl,rfl,rfl⟩
 | .int k a :: xs,.int k' b :: ys,r,h=>by
  simp only[sameI]at h;split at h
  ·rename_i hk;subst hk;cases hs:sameI xs ys
   ·rw[hs]at h;cases h
   ·rw[hs]at h;obtain⟨l,rfl,rfl,rfl⟩:=quq hs;simp only[Option.map_some]at h;injection h with h
    subst h;exact⟨(k,a,b) :: l,rfl,rfl,by rw[Bool.eq_iff_iff];simp[iE]⟩
  ·cases h
theorem qqg {P:Program}{t:TypeId}{k:IntKind}(h:P.underlying t=some (.int k)){L:List K3}{g:K3->Value}{o:Nat}{p:K3}(hp:L[o]?=some p)(w:World):(part t (L.map g).toArray o).run P w=.ok (g p) w:=by
 simp[part,isAgg,run_underlying h,hp]
theorem qqf {P:Program}{t:TypeId}{fs:Array Field}(h:P.underlying t=some (.struct fs)){n:Nat}(hz:szT P t=some n){L:List K3}{g:K3->Value}{o:Nat}(w:World) :
 (part t (L.map g).toArray o).run P w=.ok (.agg (((L.drop o).take n).map g).toArray) w:=by
 unfold szT at hz;cases hi:P.info? t
 ·rw[hi]at hz;cases hz
 ·rename_i i;rw[hi]at hz;injection hz with hz
  have e:(L.map g).toArray.extract o (o+n)=(((L.drop o).take n).map g).toArray:=by
   simp[List.map_drop,List.map_take,List.extract_eq_take_drop]
  simp[part,isAgg,run_underlying h,sizeOf,typeInfo,hi,hz]
theorem qql {P:Program}{d:Nat}{t:TypeId}{fs:Array Field}{n:Nat}(hu:P.underlying t=some (.struct fs))(h:flatT P (d+1) t=some n):P.stoodInHeld t=false/\qsw (flatT P d) fs.toList 0=some n/\szT P t=some n:=by
 unfold flatT at h;rw[hu]at h;simp only at h;split at h
 ·cases h
 ·rename_i hs;cases hf:qsw (flatT P d) fs.toList 0
  ·rw[hf]at h;cases h
  ·rw[hf]at h;simp only[Option.bind_some]at h;split at h
   ·rename_i hz;injection h with h;subst h
    exact⟨by simpa using hs,rfl,hz⟩
   ·cases h
theorem q9p {P:Program}{d:Nat}{t:TypeId}{k:IntKind}{n:Nat}(hu:P.underlying t=some (.int k))(h:flatT P (d+1) t=some n):n=1:=by
 unfold flatT at h;rw[hu]at h;simp only at h;injection h with h;exact h.symm
theorem qzu {P:Program}(w:World):∀(d D:Nat) (t:TypeId) (fs:Array Field) (n:Nat),P.underlying t=some (.struct fs)->flatT P d t=some n->d<=D->∀L:List K3,L.length=n ->
 (Op.equalIn D t (.agg (L.map iA).toArray) (.agg (L.map iB).toArray)).run P w=.ok (L.all iE) w
 |0,D,t,fs,n,hu,h,hd,L,hL=>by cases h
 |d+1,D,t,fs,n,hu,h,hd,L,hL=>by
  obtain⟨D',rfl⟩:∃D',D=D'+1:=⟨D-1,by omega⟩
  obtain⟨hs,hf,hz⟩:=qql hu h;have hfo:P.fieldsOf t=fs:=by unfold Program.fieldsOf;rw[hu]
  rw[run_equalIn_struct w D' t _ _ (by rw[hfo];exact hu) hs,hfo];have key:∀(gs:List Field) (o:Nat),qsw (flatT P d) gs o=some n->o<=n/\(Op.eqFields D' (L.map iA).toArray (L.map iB).toArray gs).run P w=.ok ((L.drop o).all iE) w:=by
   intro gs;induction gs with
   |nil=>
    intro o ho;simp only[qsw]at ho;injection ho with ho
    subst ho;exact⟨Nat.le_refl _,by simp[Op.eqFields,List.drop_of_length_le (Nat.le_of_eq hL)]⟩
   |cons f gs ih=>
    intro o ho;simp only[qsw]at ho;split at ho
    case isFalse=>cases ho
    rename_i hn;cases hz2:flatT P d f.type
    ·rw[hz2]at ho;cases ho
    rename_i z;rw[hz2]at ho;simp only[Option.bind_some]at ho;obtain⟨i1,i2⟩:=ih (o+z) ho;refine⟨by omega,?_⟩;have one:∃a b,(part f.type (L.map iA).toArray o).run P w=.ok a w/\(part f.type (L.map iB).toArray o).run P w=.ok b w/\(Op.equalIn D' f.type a b).run P w=.ok (((L.drop o).take z).all iE) w:=by
     cases d with
     |zero=>cases hz2
     |succ d=>
      cases hu2:P.underlying f.type with
      |none=>unfold flatT at hz2;rw[hu2]at hz2;cases hz2
      |some T=>
       cases T<;>try(unfold flatT at hz2;rw[hu2]at hz2;cases hz2;done)
       case int k=>
        have z1:=q9p hu2 hz2;subst z1;have⟨p,hp⟩:∃p,L[o]?=some p:=⟨_,List.getElem?_eq_getElem (by omega)⟩
        obtain⟨D2,rfl⟩:∃D2,D'=D2+1:=⟨D'-1,by omega⟩
        refine⟨_,_,qqg hu2 hp w,qqg hu2 hp w,?_⟩;rw[iA,iB,run_equalIn_int w D2 f.type p.1 k _ _ hu2];have e:(L.drop o).take 1=[p]:=by
         rw[List.drop_eq_getElem_cons (by omega)];rw[List.getElem?_eq_getElem (by omega)]at hp;injection hp with hp
         simp[hp]
        rw[e];simp[iE]
       case struct fs2=>
        obtain⟨_,_,hz3⟩:=qql hu2 hz2;exact⟨_,_,qqf hu2 hz3 w,qqf hu2 hz3 w,qzu w (d+1) D' f.type fs2 z hu2 hz2 (by omega) _ (by rw[List.length_take,List.length_drop];omega)⟩
    obtain⟨a,b,h1,h2,h3⟩:=one;have e:(L.drop o).all iE=(((L.drop o).take z).all iE&&(L.drop (o+z)).all iE):=by
     rw[<-List.all_append,<-List.drop_drop,List.take_append_drop]
    rw[<-hn.2]at h1 h2;simp only[Op.eqFields,hn.1,ne_eq,not_false_eq_true,if_true,Sem.run_bind,h1,h2,h3,Result.andThen_ok,e];cases hc:((L.drop o).take z).all iE
    ·simp
    ·simpa[hc]using i2
  have:=(key fs.toList 0 hf).2;simpa using this
theorem qafm {gid:Gid}{w:World}{M:Nat->Prop}{μ:Inj}{x':Value}{l:List K3}{f:K3->Int}(h:R gid w M μ x' (.agg (l.map fun p=>V.int p.1 (f p)))):x'=.agg (l.map fun p=>Value.int p.1 (f p)).toArray:=by
 cases h with
 |c h=>cases h with
  |p h=>cases h
 |agg arr cs hsz hr=>
  congr 1
  apply Array.ext
  ·simpa using hsz
  ·intro i h1 h2;have h3:i<l.length:=by simpa using h2
   have:=hr i arr[i] (V.int l[i].1 (f l[i])) (Array.getElem?_eq_getElem h1) (by simp[h3]);rw[(R.c this).inv_int];simp
theorem q6b {P:Program}{t:TypeId}(h:P.underlying t=some .bool)(a b:Bool)(w:World):(Op.equal t (.bool a) (.bool b)).run P w=.ok (a == b) w:=by
 show(Op.equalIn (9999+1) t _ _).run P w=_;unfold Op.equalIn;simp only[Sem.run_bind,run_underlying h w,Result.andThen_ok];rfl
theorem qzt {P:Program}{t e:TypeId}(h:P.underlying t=some (.slice e))(b:Option Addr)(n m n' m':Nat)(w:World):(Op.equal t (.slice none n m) (.slice b n' m')).run P w=.ok b.isNone w:=by
 show(Op.equalIn (9999+1) t _ _).run P w=_;unfold Op.equalIn;simp only[Sem.run_bind,run_underlying h w,Result.andThen_ok];rfl
theorem q6a {P:Program}{t e:TypeId}(h:P.underlying t=some (.slice e))(b:Addr)(n m n' m':Nat)(w:World):(Op.equal t (.slice (some b) n m) (.slice none n' m')).run P w=.ok false w:=by
 show(Op.equalIn (9999+1) t _ _).run P w=_;unfold Op.equalIn;simp only[Sem.run_bind,run_underlying h w,Result.andThen_ok];rfl
theorem qr5 {v:Value}{x:V}{b:Bool}(hr:R gid w M μ v x)(h:x.isNil=some b):∃a n m,v=.slice a n m/\a.isNone=b:=by
 cases x<;>simp only[V.isNil]at h<;>try(cases h;done)
 case nil=>injection h with h;subst h;exact⟨none,0,0,hr.inv_nil,rfl⟩
 case emp=>
  injection h with h;subst h
  obtain⟨a,cap,rfl⟩:=hr.inv_emp;exact⟨some a,0,cap,rfl,rfl⟩
 case sl l=>
  cases l with
  |nil=>cases h
  |cons c cs=>
   injection h with h
   subst h;cases hr with
   |c hr=>cases hr with
    |p hr=>cases hr with
     |sl a len cap s l f=>exact⟨some a,len,cap,rfl,rfl⟩
 case ref=>
  injection h with h
  subst h;cases hr with
  |c hr=>cases hr with
   |p hr=>cases hr
   |ref b z off len c base cap a=>exact⟨some a,_,cap,rfl,rfl⟩
theorem q6k {P:Program}{t:TypeId}{bk:BK}(hbk:bkT P t=some bk){op:BinOp}{x' y':Value}{x y v:V}(hx:R gid w M μ x' x)(hy:R gid w M μ y' y)(h:binV bk op x y=some v)(X Y:Operand) :
 ∃v',((do eqGuard op t X Y x' y';binOp op t x' y'):Sem Value).run P w=.ok v' w/\R gid w M μ v' v:=by
 cases bk with
 |num=>
  cases x<;>try(simp only[binV]at h;cases h;done)
  cases y<;>try(simp only[binV]at h;cases h;done)
  rename_i k a k' b;rw[hx.inv_int,hy.inv_int,eqGuard_at_int];simp only[binV]at h;by_cases hk:k=k'
  ·subst hk;cases op;all_goals simp only[if_true,binI,bitsI,qa3,Option.map_some]at h
   all_goals first
    | (injection h with h;subst h;exact⟨_,by simp[binOp,Op.intArith,Op.intCmp,Op.intBits],.c (.p (.int _ _))⟩)
    | (injection h with h;subst h;refine⟨.bool _,?_,.c (.p (.bool _))⟩;simp[binOp,Op.intCmp,bne];done)
    | (injection h with h;subst h;refine⟨.bool _,?_,.c (.p (.bool _))⟩;simp[binOp,Op.intCmp,bne];rfl)
    | (split at h
       ·cases h
       ·rename_i hb;injection h with h;subst h
        refine⟨_,?_,.c (.p (.int _ _))⟩;simp[binOp,Op.intDiv,Op.shift,hb];done)
    | (split at h
       ·cases h
       ·rename_i hb;injection h with h;subst h
        refine⟨_,?_,.c (.p (.int _ _))⟩;simp[binOp,Op.shift,hb];rfl)
  ·cases op;all_goals simp only[if_neg hk,qa3]at h
   all_goals first
    | (cases h;done)
    | (split at h
       ·cases h
       ·rename_i hb;injection h with h;subst h
        refine⟨_,?_,.c (.p (.int _ _))⟩;simp[binOp,Op.shift,hb];done)
    | (split at h
       ·cases h
       ·rename_i hb;injection h with h;subst h
        refine⟨_,?_,.c (.p (.int _ _))⟩;simp[binOp,Op.shift,hb];rfl)
 |bool=>
  cases x<;>try(simp only[binV]at h;cases h;done)
  cases y<;>try(simp only[binV]at h;cases h;done)
  rename_i a b;rw[hx.inv_bool,hy.inv_bool,eqGuard_at_bool];have hq:=q6b (qadu hbk) a b w;cases op;all_goals simp only[binV]at h
  all_goals first
   | (cases h;done)
   | (injection h with h;subst h;refine⟨_,?_,.c (.p (.bool _))⟩;simp only[binOp,pure_bind,Sem.run_bind,hq,Result.andThen_ok];rfl)
 |ints n=>
  cases x<;>try(simp only[binV]at h;cases h;done)
  cases y<;>try(simp only[binV]at h;cases h;done)
  rename_i xs ys;simp only[binV]at h;split at h
  case isFalse=>cases h
  rename_i hl;simp only[Option.bind_eq_some_iff]at h;obtain⟨b,hb,h⟩:=h;obtain⟨l,rfl,rfl,rfl⟩:=quq hb;obtain⟨hg,fs,hu,hf⟩:=qadt hbk;have ex:=qafm (f:=fun p=>p.2.1) hx;have ey:=qafm (f:=fun p=>p.2.2) hy;subst ex ey;have q:=qzu w 8 10000 t fs n hu hf (by omega) l (by simpa using hl);rw[show(fun p:K3=>Value.int p.1 p.2.1)=iA from rfl,show(fun p:K3=>Value.int p.1 p.2.2)=iB from rfl];cases op;all_goals simp only at h
  all_goals first
   | (cases h;done)
   | (injection h with h;subst h
      refine⟨_,?_,.c (.p (.bool _))⟩;rw[Sem.run_bind,run_eqGuard_agg w _ t X Y _ _ hg];simp only[Result.andThen_ok];first|rw[run_eql_struct,q] |rw[run_neq_struct,q]
      rfl)
 |slice=>
  obtain⟨e,he⟩:=qaan hbk;have main:∀{b:Bool} {p q:Value} (_:p=x') (_:q=y'),(∃a n m,p=.slice a n m)->(Op.equal t p q).run P w=.ok b w ->
   (match (generalizing:=false) op with| .eql=>some (V.bool b)| .neq=>some (V.bool !b)|_=>none)=some v->∃v',((do eqGuard op t X Y x' y';binOp op t x' y'):Sem Value).run P w=.ok v' w/\R gid w M μ v' v:=by
   intro b p q hp hq ⟨a,n,m,hpe⟩ hr hv;subst hp;subst hq;subst hpe;rw[eqGuard_at_slice];cases op;all_goals simp only[]at hv
   all_goals first
    | (cases hv;done)
    | (injection hv with hv;subst hv;refine⟨_,?_,.c (.p (.bool _))⟩;simp only[binOp,pure_bind,Sem.run_bind,hr,Result.andThen_ok];rfl)
  by_cases hxn:x=.nil
  ·subst hxn;simp only[binV,Option.bind_eq_some_iff]at h;obtain⟨b,h1,h2⟩:=h;obtain⟨a,n,m,h3,h4⟩:=qr5 hy h1;have hx':=hx.inv_nil;refine main (b:=b) rfl rfl ⟨_,_,_,hx'⟩ ?_ h2;rw[hx',h3,qzt he,h4]
  ·by_cases hyn:y=.nil
   ·subst hyn;have h':x.isNil.bind (fun b=>match (generalizing:=false) op with| .eql=>some (V.bool b)| .neq=>some (V.bool !b)|_=>none)=some v:=by
     cases x<;>first|exact h|exact absurd rfl hxn
    rw[Option.bind_eq_some_iff]at h';obtain⟨b,h1,h2⟩:=h';obtain⟨a,n,m,h3,h4⟩:=qr5 hx h1;have hy':=hy.inv_nil;refine main (b:=b) rfl rfl ⟨_,_,_,h3⟩ ?_ h2;rw[h3,hy'];cases a with
    |none=>rw[qzt he];simp at h4;rw[h4];rfl
    |some a=>rw[q6a he];simp at h4;rw[h4]
   ·exfalso;cases x<;>cases y<;>first|exact hxn rfl|exact hyn rfl| (simp only[binV]at h;cases h;done)
theorem q65 {P:Program}{op:UnOp}{x':Value}{x v:V}(hx:R gid w M μ x' x)(h:unV op x=some v):∃v',(Op.unary op x').run P w=.ok v' w/\R gid w M μ v' v:=by
 cases op<;>cases x<;>simp only[unV]at h<;>try(cases h;done)
 ·injection h with h;subst h
  rw[hx.inv_int];exact⟨_,rfl,.c (.p (.int _ _))⟩
 ·rw[hx.inv_int];simp only[bitsI,Option.map_some]at h;injection h with h;subst h
  exact⟨_,rfl,.c (.p (.int _ _))⟩
 ·injection h with h;subst h
  rw[hx.inv_bool];exact⟨_,rfl,.c (.p (.bool _))⟩
end Go.Abs
namespace Go.Abs
variable {T : Tab} {w : World} {M : Nat → Prop} {μ : Inj} {H : Heap} {gid : Gid} {n0 : Nat}
theorem qb8 {x':Value}{x:V}(hx:R gid w M μ x' x){n:Nat}(h:natOf x=some n):∃(k:IntKind) (i:Int),x'=.int k i/\0<=i/\i.toNat=n/\i=(n:Int):=by
 cases x<;>simp only[natOf]at h<;>try(cases h;done)
 split at h
 ·rename_i k i hi;injection h with h
  subst h;exact⟨k,i,hx.inv_int,hi,rfl,by omega⟩
 ·cases h
def qgn (d:Nat)(o:Option Value)(n:Nat):Prop:=
 match o with
 |none=>n=d
 |some v=>∃(k:IntKind) (i:Int),v=.int k i/\0<=i/\i.toNat=n/\i=(n:Int)
theorem qbm (tb:Tabs T.gid w M){x:Option Operand}{c:Option X}(hc:cOX T x=some c){a:Act}{E:Env}(hE:ERel T.gid w M μ a.tmps E){d n:Nat}(h:qbi E d c=some n):qgn d (x.map a.eval) n:=by
 cases x with
 |none=>simp only[cOX]at hc;injection hc with hc;subst hc;simp only[qbi]at h;injection h with h;exact h.symm
 |some x=>
  simp only[cOX,Option.map_eq_some_iff]at hc;obtain⟨c',h1,rfl⟩:=hc;exact qb8 (qaj tb h1 hE) h
theorem qrp {P:Program}{len cap l h m:Nat}{lo hi mx:Option Value}(hl:qgn 0 lo l)(hh:qgn len hi h)(hm:qgn cap mx m)(h1:l<=h)(h2:h<=m)(h3:m<=cap)
 (hmh:mx.isSome=true->hi.isSome=true):(Instr.sliceBounds true len cap lo hi mx).run P w=.ok (l,h,m) w:=by
 cases mx with
 |none=>
  simp only[qgn]at hm;subst hm;cases hi with
  |none=>
   simp only[qgn]at hh;subst hh;cases lo with
   |none=>simp only[qgn]at hl;subst hl;simp[Instr.sliceBounds]
   |some lo=>
    obtain⟨k,i,rfl,h0,h5,h6⟩:=hl;simp[Instr.sliceBounds,run_sliceBound w k i h .sliceB h0 (by omega),h5]
  |some hi=>
   obtain⟨kh,ih,rfl,h0,h5,h6⟩:=hh;cases lo with
   |none=>simp only[qgn]at hl;subst hl;simp[Instr.sliceBounds,run_sliceBound w kh ih m .sliceAcap h0 (by omega),h5]
   |some lo=>
    obtain⟨k,i,rfl,h0',h5',h6'⟩:=hl;simp[Instr.sliceBounds,run_sliceBound w kh ih m .sliceAcap h0 (by omega),h5,run_sliceBound w k i h .sliceB h0' (by omega),h5']
 |some mx=>
  obtain⟨km,im,rfl,h0m,h5m,h6m⟩:=hm;cases hi with
  |none=>simp at hmh
  |some hi=>
   obtain⟨kh,ih,rfl,h0,h5,h6⟩:=hh;cases lo with
   |none=>simp only[qgn]at hl;subst hl;simp[Instr.sliceBounds,run_sliceBound w km im cap .slice3Acap h0m (by omega),h5m,run_sliceBound w kh ih m .slice3B h0 (by omega),h5]
   |some lo=>
    obtain⟨k,i,rfl,h0',h5',h6'⟩:=hl;simp[Instr.sliceBounds,run_sliceBound w km im cap .slice3Acap h0m (by omega),h5m,run_sliceBound w kh ih m .slice3B h0 (by omega),h5,run_sliceBound w k i h .slice3C h0' (by omega),h5']
theorem qjt {P:Program}{t e:TypeId}{z len cap l h m:Nat}(he:P.underlying t=some (.slice e))(hz:szT P e=some z){a:Option Addr}{lo hi mx:Option Value}(hl:qgn 0 lo l)(hh:qgn len hi h)
 (hm:qgn cap mx m) (h1:l<=h) (h2:h<=m) (h3:m<=cap) (hmh:mx.isSome=true->hi.isSome=true) :
 (Instr.sliceAt t (.slice a len cap) lo hi mx).run P w=.ok (.slice (if m=l then a else a.map (·.add (l*z))) (h-l) (m-l)) w:=by
 have hb:=qrp (P:=P) (w:=w) hl hh hm h1 h2 h3 hmh;simp[Instr.sliceAt,Instr.slice,run_underlying he,hb,qbo hz]
theorem qoy (l:List V)(lo hi i:Nat):((l.take hi).drop lo)[i]?=if lo+i<hi then l[lo+i]? else none:=by
 rw[List.getElem?_drop,List.getElem?_take]
theorem RP.slice {a:Option Addr}{len cap:Nat}{l:List V}(hr:RP gid w M (.slice a len cap) (.sl l)){lo hi m z:Nat}(h1:lo<=hi)(h2:hi<=m)(h3:m<=cap)(h4:hi<=l.length)
 (hz:lo=0\/qcc z ((l.take hi).drop lo)=true):RP gid w M (.slice (if m=lo then a else a.map (·.add (lo*z))) (hi-lo) (m-lo)) (.sl ((l.take hi).drop lo)):=by
 have hlen:((l.take hi).drop lo).length=hi-lo:=by simp;omega
 cases hr with
 |sl0=>
  have e:hi=0:=by simpa using h4
  have e2:m=0:=by omega
  have e3:lo=0:=by omega
  subst e;subst e2;subst e3;exact .sl0
 |sl a len cap s l f hl ha hM hb hcap hs hc hr=>
  by_cases hml:m=lo
  ·rw[if_pos hml];have e:hi=lo:=by omega
   have e0:(l.take hi).drop lo=[]:=by apply List.eq_nil_of_length_eq_zero;omega
   rw[e0];exact .sl a _ _ s [] f (by simp;omega) (by simp) (by simp) (by simp) (by omega) (by simp) (by simp) (by simp)
  ·rw[if_neg hml];by_cases hnil:(l.take hi).drop lo=[]
   ·rw[Option.map_some];rw[hnil]at hlen ⊢;exact .sl _ _ _ s [] f (by simp at hlen ⊢;omega) (by simp) (by simp) (by simp) (by omega) (by simp) (by simp) (by simp)
   have hne:l≠[]:=fun h0=>by subst h0;simp at hnil
   replace ha:=ha hne;replace hM:=hM hne;replace hb:=hb hne
   rw[Option.map_some,qih ha];have off:∀(i:Nat) (e:V),((l.take hi).drop lo)[i]?=some e->lo*z=lo*s:=by
    intro i e hi';rcases hz with rfl|hz
    ·simp
    ·cases hq:(l.take hi).drop lo with
     |nil=>rw[hq]at hi';simp at hi'
     |cons x xs=>
      rw[hq]at hz;simp only[qcc,decide_eq_true_eq]at hz;have hx:l[lo]?=some x:=by
       have:=qoy l lo hi 0;rw[hq]at this;simp only[Nat.add_zero,List.getElem?_cons_zero]at this;split at this
       ·exact this.symm
       ·cases this
      rw[<-hz,hs lo x hx]
   have get:∀(i:Nat) (e:V),((l.take hi).drop lo)[i]?=some e->l[lo+i]?=some e:=by
    intro i e h;rw[qoy]at h;split at h
    ·exact h
    ·cases h
   refine .sl _ _ _ s _ (fun i j=>f (lo+i) j) hlen.symm (fun _=>rfl) (fun _=>hM) (fun _=>hb) (by omega) (fun i e hi'=>hs _ e (get i e hi')) (fun i e j c hi' hj=>?_) (fun i e j c hi' hj=>hr _ e j c (get i e hi') hj);have:=hc _ e j c (get i e hi') hj;rw[<-this]
   congr 1
   have ho:=off i e hi';simp only[Addr.mk.injEq,true_and,and_true];rw[ho,Nat.add_mul];omega
theorem R.inv_sl {v:Value}{l:List V}(h:R gid w M μ v (.sl l)):∃a len cap,v=.slice a len cap/\len=l.length/\len<=cap/\RP gid w M (.slice a len cap) (.sl l):=by
 cases h with
 |c h=>
  cases h with
  |p h=>
   cases h with
   |sl0=>exact⟨none,0,0,rfl,rfl,Nat.le_refl _,.sl0⟩
   |sl a len cap s l f h1 h2 h3 h4 h5 h6 h7 h8=>exact⟨some a,len,cap,rfl,h1,h5,.sl a len cap s l f h1 h2 h3 h4 h5 h6 h7 h8⟩
theorem R.inv_ref {v:Value}{b z off len:Nat}(h:R gid w M μ v (.ref b z off len)):∃(a:Addr) (cap c base:Nat) (arr:Array Value) (e:TypeId) (fr:Nat × Nat),v=.slice (some a) len cap/\μ b=some (c,base,z)/\a.block=c/\a.spot=none/\len<=cap /\
 (cap=0\/a.off=base+off*z)/\w.heap[c]?=some (.cells arr e fr)/\a.off+cap*z<=arr.size:=by
 cases h with
 |c h=>
  cases h with
  |p h=>cases h
  |ref b z off len c base cap a arr e fr h1 h2 h3 h4 h5 h6 h7=>exact⟨a,cap,c,base,arr,e,fr,rfl,h1,h2,h3,h4,h5,h6,h7⟩
theorem RP.eptr_drop {a:Addr}{cs:List V}(h:RP gid w M (.pointer (some a)) (.eptr cs))(n:Nat):RP gid w M (.pointer (some (a.add n))) (.eptr (cs.drop n)):=by
 cases h with
 |eptr a cs f ha hM hb hc hr=>
  rw[qih ha];refine .eptr _ _ (fun j=>f (n+j)) rfl hM hb (fun j c hj=>?_) (fun j c hj=>hr _ c (by rw[List.getElem?_drop]at hj;exact hj));rw[List.getElem?_drop]at hj;rw[<-hc _ c hj]
  congr 1
  simp only[Addr.mk.injEq,true_and,and_true];omega
theorem qmq {P:Program}{f:Field}{z:Nat}(hz:szT P f.type=some z)(h0:z≠0)(a:Addr):(fieldPlace a f).run P w=.ok (a.add f.offset) w:=by
 simp[fieldPlace,qbo hz,h0]
theorem q3c {P:Program}{t:TypeId}{ag:Bool}{z off:Nat}(hag:aggT P t=some ag)(hz:szT P t=some z){arr:Array Value}{cs:List V}(hsz:arr.size=cs.length)
 (hr:∀(i:Nat) (x:Value) (c:V),arr[i]?=some x->cs[i]?=some c->RC gid w M μ x c) {v:V} (h:wrapC ag z (cs.drop off)=some v):∃v',(part t arr off).run P w=.ok v' w/\R gid w M μ v' v:=by
 unfold wrapC at h;cases ag with
 |true=>
  simp only[if_true]at h;split at h
  ·rename_i hle;injection h with h
   subst h;refine⟨.agg (arr.extract off (off+z)),by simp[part,qmi hag,qbo hz],.agg _ _ (by simp at hle ⊢;omega) fun i x c hx hc=>?_⟩;rw[List.getElem?_take]at hc;split at hc
   ·rw[List.getElem?_drop]at hc;rw[Array.getElem?_extract]at hx;split at hx
    ·exact hr _ x c hx hc
    ·cases hx
   ·cases hc
  ·cases h
 |false=>
  simp only[Bool.false_eq_true,if_false]at h;rw[List.getElem?_drop,Nat.add_zero]at h;have hlt:off<arr.size:=by rw[hsz];exact(List.getElem?_eq_some_iff.1 h).1
  have hx:arr[off]?=some arr[off]:=by simp[hlt]
  exact⟨arr[off],by simp[part,qmi hag,hx],.c (hr off _ v hx h)⟩
end Go.Abs
namespace Go.Abs
variable {T : Tab} {w : World} {M : Nat → Prop} {μ : Inj} {H : Heap} {gid : Gid} {n0 : Nat}
def qib (arr:Array Value)(o:Nat)(new:List Value):Array Value:=(arr.toList.take o++new++arr.toList.drop (o+new.length)).toArray
theorem qjy (arr:Array Value)(o:Nat)(new:List Value)(h:o+new.length<=arr.size):(qib arr o new).size=arr.size:=by simp[qib];omega
theorem qdg (arr:Array Value)(o:Nat)(new:List Value)(h:o+new.length<=arr.size)(i:Nat) :
 (qib arr o new)[i]?=if i<o then arr[i]? else if i<o+new.length then new[i-o]? else arr[i]?:=by
 unfold qib;rw[List.getElem?_toArray,List.append_assoc];by_cases h1:i<o
 ·rw[if_pos h1,List.getElem?_append_left (by simp;omega),List.getElem?_take,if_pos h1];simp
 ·rw[if_neg h1,List.getElem?_append_right (by simp;omega)];have hl:(arr.toList.take o).length=o:=by simp;omega
  rw[hl];by_cases h2:i<o+new.length
  ·rw[if_pos h2,List.getElem?_append_left (by omega)]
  ·rw[if_neg h2,List.getElem?_append_right (by omega),List.getElem?_drop];simp only[Array.getElem?_toList]
   congr 1
   omega
theorem qxt {e:V}{cs:List V}(ht:e.isTup=false)(hl:cs.length=e.cells.length)(hc:∀c ∈ cs,c.isCell=true):(e.withCells cs).cells=cs/\(e.withCells cs).isTup=false:=by
 have cell:∀{e:V},e.cells=[e]->(e.withCells cs)=cs.headD .nil->cs.length=1->(e.withCells cs).cells=cs/\(e.withCells cs).isTup=false:=by
  intro e h1 h2 h3
  match cs,h3,hc with
  | [c],_,hc=>
   have hcc:=hc c (by simp);rw[h2];refine⟨V.cells_cell hcc,?_⟩;simp only[List.headD_cons];cases c<;>first|rfl|cases hcc
 cases e<;>first
  | (cases ht;done)
  |exact⟨rfl,rfl⟩
  |exact cell rfl rfl hl
theorem q7o {P:Program}{t:TypeId}{z:Nat}(hz:szT P t=some z)(hs:Sim gid w M μ H){b i off:Nat}{k:Blk}{e v:V}{p' v':Value}(hp:R gid w M μ p' (.ptr b i off))(hv:R gid w M μ v' v)
 (ht:v.isTup=false) (hk:H[b]?=some (some k)) (he:k.el[i]?=some e) (hw:k.wr=true) (hvz:v.cells.length=z) (hoff:off+z<=e.cells.length) (hpur:k.arr=true\/b<n0->v.pure=true) :
 ∃w',(Instr.storeAt t p' v').run P w=.ok () w'/\Step gid n0 w M μ H w' M μ (H.set b (some { k with el:=k.el.set i (e.withCells (qcq e.cells off v.cells)) })):=by
 obtain⟨c,base,zb,hμ,rfl⟩:=hp.inv_ptr;have hblk:=hs.blk b c base zb k hμ hk;obtain⟨arr,et,h1,h2,h3⟩:=hblk.lay;obtain⟨het,hez,hec⟩:=h3 i e he;have hcs:=hv.cells ht;have hi:i<k.el.length:=(List.getElem?_eq_some_iff.1 he).1;have hrow:(i+1)*zb<=k.el.length*zb:=Nat.mul_le_mul_right _ hi;rw[Nat.add_mul]at hrow;have hfit:base+(i*zb+off)+v'.cells.toList.length<=arr.size:=by simp[hcs.1];omega
 have hone:∀x ∈ v'.cells.toList,x.oneCell'=true:=by
  intro x hx;obtain⟨j,hj⟩:=List.getElem?_of_mem hx;have hjl:j<v.cells.length:=by
   have:=(List.getElem?_eq_some_iff.1 hj).1;simp at this;omega
  exact(hcs.2 j x v.cells[j] (by simpa using hj) (List.getElem?_eq_getElem hjl)).oneCell
 have hst:=run_storeCells_at P c (base+(i*zb+off)) et v'.cells.toList 0 arr w h1 (by simpa using hfit) hone;simp only[Nat.add_zero]at hst;refine⟨_,?_,Step.write hs hμ hk hw arr (qib arr (base+(i*zb+off)) v'.cells.toList) et h1 (qjy _ _ _ hfit) (k.el.set i (e.withCells (qcq e.cells off v.cells))) (by simpa using h2) ?_ ?_ ?_⟩
 ·simp only[Instr.storeAt,Instr.sureAddr,pure_bind,storeVar,Sem.run_bind,qbo hz,Result.andThen_ok];rw[if_neg (by simp[hcs.1,hvz])];exact hst
 all_goals
  have hcell:∀c ∈ qcq e.cells off v.cells,c.isCell=true:=by
   intro x hx;obtain⟨j,hj⟩:=List.getElem?_of_mem hx;rw[ql7 _ _ _ (by omega)]at hj;split at hj
   ·obtain⟨y,_,hr⟩:=hec j x hj;exact hr.isCell
   ·split at hj
    ·have hjl:j-off<v'.cells.size:=by rw[hcs.1];exact(List.getElem?_eq_some_iff.1 hj).1
     exact(hcs.2 _ v'.cells[j-off] x (by simp[hjl]) hj).isCell
    ·obtain⟨y,_,hr⟩:=hec j x hj;exact hr.isCell
  have hwc:=qxt (cs:=qcq e.cells off v.cells) het (qgr _ _ _ (by omega)) hcell
 ·intro i' el hi';by_cases hii:i=i'
  ·subst hii;rw[List.getElem?_set_self hi]at hi';injection hi' with hi'
   subst hi';refine⟨hwc.2,by rw[hwc.1,qgr _ _ _ (by omega)];exact hez,fun j cv hj=>?_⟩;rw[hwc.1,ql7 _ _ _ (by omega)]at hj;have hlen:v'.cells.toList.length=v.cells.length:=by simp[hcs.1]
   split at hj
   ·rename_i c1;obtain⟨x,hx,hr⟩:=hec j cv hj;exact⟨x,by rw[qdg _ _ _ hfit,if_pos (by omega)];exact hx,hr⟩
   ·split at hj
    ·rename_i c1 c2;have hjl:j-off<v'.cells.size:=by rw[hcs.1];exact(List.getElem?_eq_some_iff.1 hj).1
     refine⟨v'.cells[j-off],?_,hcs.2 _ _ cv (by simp[hjl]) hj⟩;rw[qdg _ _ _ hfit,if_neg (by omega),if_pos (by omega),show base+(i*zb+j)-(base+(i*zb+off))=j-off by omega];simp[hjl]
    ·rename_i c1 c2;obtain⟨x,hx,hr⟩:=hec j cv hj;exact⟨x,by rw[qdg _ _ _ hfit,if_neg (by omega),if_neg (by omega)];exact hx,hr⟩
  ·rw[List.getElem?_set_ne hii]at hi';obtain⟨g1,g2,g3⟩:=h3 i' el hi';refine⟨g1,g2,fun j cv hj=>?_⟩;obtain⟨x,hx,hr⟩:=g3 j cv hj;refine⟨x,?_,hr⟩;have hjz:j<zb:=by rw[<-g2];exact(List.getElem?_eq_some_iff.1 hj).1
   have hlen:v'.cells.toList.length=v.cells.length:=by simp[hcs.1]
   rw[qdg _ _ _ hfit];rcases Nat.lt_or_gt_of_ne hii with h4|h4
   ·have:(i+1)*zb<=i'*zb:=Nat.mul_le_mul_right _ h4;rw[Nat.add_mul]at this;rw[if_neg (by omega),if_neg (by omega)];exact hx
   ·have:(i'+1)*zb<=i*zb:=Nat.mul_le_mul_right _ h4;rw[Nat.add_mul]at this;rw[if_pos (by omega)];exact hx
 ·intro harr el hel;have hvp:=hpur (.inl harr);rcases List.mem_or_eq_of_mem_set hel with h4|h4
  ·exact hblk.pur harr el h4
  ·subst h4;unfold V.pure;rw[hwc.1,List.all_eq_true];have hep:=hblk.pur harr e (List.mem_of_getElem? he);intro x hx;unfold qcq at hx;simp only[List.mem_append]at hx;rcases hx with (hx|hx)|hx
   ·exact List.all_eq_true.1 hep x (List.mem_of_mem_take hx)
   ·exact List.all_eq_true.1 hvp x hx
   ·exact List.all_eq_true.1 hep x (List.mem_of_mem_drop hx)
 ·intro n hn hbn hlow el hel x hx;have hvp:=hpur (.inr (by omega));rcases List.mem_or_eq_of_mem_set hel with h4|h4
  ·exact hlow el h4 x hx
  ·subst h4;rw[hwc.1]at hx;have hem:=List.mem_of_getElem? he;unfold qcq at hx;simp only[List.mem_append]at hx;rcases hx with (hx|hx)|hx
   ·exact hlow e hem x (List.mem_of_mem_take hx)
   ·exact .cell (List.all_eq_true.1 hvp x hx)
   ·exact hlow e hem x (List.mem_of_mem_drop hx)
end Go.Abs
namespace Go.Abs
variable {T : Tab} {w : World} {M : Nat → Prop} {μ : Inj} {H : Heap} {gid : Gid} {n0 : Nat}
theorem RP.cellPure {v:Value}{c:V}(h:RP gid w M v c):c.cellPure=true:=by cases h<;>rfl
def Shown (gid:Gid)(w:World)(M:Nat->Prop)(μ:Inj)(a:Option Addr)(z:Nat)(ys:List V):Prop:=
 (∀(i:Nat) (e:V),ys[i]?=some e->e.isTup=false/\e.cells.length=z/\e.pure=true) /\
 (ys≠[]->∃ad,a=some ad/\∀(i:Nat) (e:V) (j:Nat) (c:V),ys[i]?=some e->e.cells[j]?=some c->∃x,w.cell? (ad.add (i*z+j))=some x/\RC gid w M μ x c)
theorem qs2 (hs:Sim gid w M μ H){y':Value}{y:V}(hr:R gid w M μ y' y){ys:List V}(h:elems H y=some ys){z:Nat}(hz:qcc z ys=true) :
 ∃a cap,y'=.slice a ys.length cap/\Shown gid w M μ a z ys:=by
 cases y<;>simp only[elems]at h<;>try(cases h;done)
 case nil=>
  injection h with h;subst h
  exact⟨none,0,hr.inv_nil,by simp,by simp⟩
 case emp=>
  injection h with h;subst h
  obtain⟨a,cap,rfl⟩:=hr.inv_emp;exact⟨some a,cap,rfl,by simp,by simp⟩
 case sl l=>
  injection h with h;subst h
  obtain⟨a,len,cap,rfl,hlen,hcap,hp⟩:=hr.inv_sl;refine⟨a,cap,by rw[hlen],?_⟩;cases hp with
  |sl0=>exact⟨by simp,by simp⟩
  |sl a len cap s l f hl ha hM hb hc' hs' hc hr'=>
   have hsz:∀(i:Nat) (e:V),l[i]?=some e->s=z:=by
    intro i e hi;cases l with
    |nil=>simp at hi
    |cons x xs=>
     simp only[qcc,decide_eq_true_eq]at hz;rw[<-hz,hs' 0 x rfl]
   refine⟨fun i e hi=>?_,fun _=>⟨a,rfl,fun i e j c hi hj=>⟨f i j,?_,.p (hr' i e j c hi hj)⟩⟩⟩
   ·refine⟨?_,by rw[hs' i e hi];exact hsz i e hi,?_⟩
    ·cases e<;>first|rfl| (have:=(hr' i _ 0 _ hi rfl).isCell;cases this)
    ·unfold V.pure;rw[List.all_eq_true];intro x hx;obtain⟨j,hj⟩:=List.getElem?_of_mem hx;exact(hr' i e j x hi hj).cellPure
   ·rw[qih (ha fun h0=>by subst h0;simp at hi),<-hsz i e hi];exact hc i e j c hi hj
 case ref b z' off len=>
  split at h
  ·rename_i k hk;split at h
   ·rename_i hcond;obtain⟨harr,hkz,hfit⟩:=hcond;injection h with h
    obtain⟨a,cap,c,base,arr,e,rfl,hc,hsp,hcap,hμ,hoff,hw,hsz,hcs⟩:=qjg hs hk (hr.inv_rc rfl);subst h;have hlen:((k.el.drop off).take len).length=len:=by simp;omega
    have hzz:∀(i:Nat) (el:V),((k.el.drop off).take len)[i]?=some el->z'=z:=by
     intro i el hi;cases hq:(k.el.drop off).take len with
     |nil=>rw[hq]at hi;simp at hi
     |cons x xs=>
      rw[hq]at hz;simp only[qcc,decide_eq_true_eq]at hz;have:=(hcs 0 x (by rw[hq];rfl)).2.1;rw[<-this,hz]
    refine⟨some a,cap,by rw[hlen],fun i el hi=>?_,fun _=>⟨a,rfl,fun i el j cv hi hj=>?_⟩⟩
    ·obtain⟨h1,h2,h3,_⟩:=hcs i el hi;exact⟨h1,by rw[h2];exact hzz i el hi,h3 harr⟩
    ·obtain⟨x,hx,hrx⟩:=(hcs i el hi).2.2.2 j cv hj;refine⟨x,?_,hrx⟩;rw[qih hsp,hc,cell_of_row w c _ arr e (0,0) hw,<-hzz i el hi,hx]
   ·cases h
  ·cases h
theorem Shown.lay {a:Addr}{z:Nat}{ys:List V}(hz:0<z)(h:Shown gid w M μ (some a) z ys) :
 ∃news:List Value,news.length=ys.length*z/\(∀(j:Nat) (u:Value),news[j]?=some u->w.cell? (a.add j)=some u)/\(∀u ∈ news,u.oneCell'=true) /\
  ∀(i:Nat) (e:V) (j:Nat) (c:V),ys[i]?=some e->e.cells[j]?=some c->∃x,news[i*z+j]?=some x/\RC gid w M μ x c:=by
 have cell:∀q,q<ys.length*z->∃x c,w.cell? (a.add q)=some x/\RC gid w M μ x c:=by
  intro q hq;have hi:q/z<ys.length:=by rw[Nat.div_lt_iff_lt_mul hz];exact hq
  have hj:q%z<z:=Nat.mod_lt _ hz;obtain⟨h1,h2,h3⟩:=h.1 _ _ (List.getElem?_eq_getElem hi);obtain⟨ad,he,hc⟩:=h.2 (by intro e;rw[e]at hi;simp at hi);injection he with he
  subst he;obtain⟨x,hx,hr⟩:=hc _ _ _ _ (List.getElem?_eq_getElem hi) (List.getElem?_eq_getElem (by rw[h2];exact hj));refine⟨x,_,?_,hr⟩;rw[Nat.div_add_mod']at hx;exact hx
 refine⟨(List.range (ys.length*z)).map fun q=>(w.cell? (a.add q)).getD Go.undef,by simp,fun j u hj=>?_,fun u hu=>?_,fun i e j c hi hj=>?_⟩
 ·simp only[List.getElem?_map,Option.map_eq_some_iff]at hj;obtain⟨q,hq,rfl⟩:=hj;rw[List.getElem?_eq_some_iff]at hq;obtain⟨hq1,hq2⟩:=hq;simp at hq1 hq2;subst hq2;obtain⟨x,_,hx,_⟩:=cell j hq1;rw[hx];rfl
 ·obtain⟨q,hq,rfl⟩:=List.mem_map.1 hu;obtain⟨x,c,hx,hr⟩:=cell q (by simpa using hq);rw[hx];exact hr.oneCell
 ·obtain⟨h1,h2,h3⟩:=h.1 i e hi;obtain⟨ad,he,hc⟩:=h.2 (by intro e;rw[e]at hi;simp at hi);injection he with he
  subst he;obtain⟨x,hx,hr⟩:=hc i e j c hi hj;have hil:i<ys.length:=(List.getElem?_eq_some_iff.1 hi).1;have hjl:j<z:=by rw[<-h2];exact(List.getElem?_eq_some_iff.1 hj).1
  have hq:i*z+j<ys.length*z:=by
   have:(i+1)*z<=ys.length*z:=Nat.mul_le_mul_right _ hil;rw[Nat.add_mul]at this;omega
  refine⟨x,?_,hr⟩;simp[hq,hx]
theorem Shown.src {P:Program}{size:Nat}{tx e':TypeId}(hk:P.underlying tx=some (.slice e')){a:Option Addr}{ys:List V}{cap:Nat}(hz:0<size)(h:Shown gid w M μ a size ys) :
 ∃news:List Value,Src P size tx (.slice a ys.length cap) ys.length news w /\
  ∀(i:Nat) (e:V) (j:Nat) (c:V),ys[i]?=some e->e.cells[j]?=some c->∃x,news[i*size+j]?=some x/\RC gid w M μ x c:=by
 cases a with
 |none=>
  cases ys with
  |nil=>exact⟨[],by simpa using Src.ofNil (P:=P) w hk cap,by simp⟩
  |cons y ys=>obtain⟨_,he,_⟩:=h.2 (by simp);cases he
 |some a=>
  obtain⟨news,h1,h2,h3,h4⟩:=h.lay hz;exact⟨news,Src.ofSlice w hk a ys.length cap news h1 h2 h3,h4⟩
theorem qn7 {P:Program}(t tx ty e:TypeId)(i:TypeInfo)(ht:P.underlying t=some (.slice e))(hi:P.info? e=some i)(g off sLen sCap:Nat)(cur:Array Value)(et:TypeId)(hg:w.heap[g]?=some (.cells cur et (0,0)))
 (x:Value) (n:Nat) (news:List Value) (hs:Src P i.size tx x n news w) (hroom:sLen+n<=sCap) (hfit:off+sLen*i.size+news.length<=cur.size) :
 (Builtin.append_ #[t,tx] ty #[.slice (some ⟨g,off,none⟩) sLen sCap,x]).run P w=.ok (.slice (some ⟨g,off,none⟩) (sLen+n) sCap) (w.setRow g (qib cur (off+sLen*i.size) news)):=by
 have hst:=run_storeCells_at P g (off+sLen*i.size) et news 0 cur w hg (by simpa using hfit) hs.one;simp only[Nat.add_zero]at hst;rcases hs.kind with ⟨e',hk⟩|hk<;>simp[Builtin.append_,run_underlying ht,run_underlying hk,sizeOf,typeInfo,hi,hs.len,hroom,hs.cells,Addr.add_lit,hst,qib]
theorem qyc (w:World)(g:Nat)(cur:Array Value)(et:TypeId)(hg:w.heap[g]?=some (.cells cur et (0,0)))(o:Nat):w.setRow g (qib cur o [])=w:=by
 have:qib cur o []=cur:=by simp[qib]
 rw[this];exact setRow_self w g cur et (0,0) hg
theorem quj {P:Program}(hn:n0<=H.length)(hs:Sim gid w M μ H)(t tx ty e e':TypeId)(i:TypeInfo)(zv:Value)(ht:P.underlying t=some (.slice e))(htx:P.underlying tx=some (.slice e'))(hi:P.info? e=some i)(hz:i.zero=some zv)
 (hzs:zv.cells.size=i.size) (h0:0<i.size) {y':Value} {ys:List V} {a:Option Addr} {cap:Nat} (hy:y'=.slice a ys.length cap) (hsh:Shown gid w M μ a i.size ys) (hne:ys≠[])
 (hlim:ys.length*i.bytes<=140737488355328) (h63:ys.length<=9223372036854775807) :
 ∃v' w' M' μ',(Builtin.append_ #[t,tx] ty #[.slice none 0 0,y']).run P w=.ok v' w'/\Step gid n0 w M μ H w' M' μ' (H++[some ⟨i.size,ys,true,true⟩])/\R gid w' M' μ' v' (.ref H.length i.size 0 ys.length):=by
 subst hy;obtain⟨news,hsrc,hlay⟩:=hsh.src htx (cap:=cap) h0;have hpos:0<ys.length:=List.length_pos_iff.2 hne;have hrun:=run_append_grow_src (P:=P) w t tx ty e i zv ht hi hz none 0 0 [] (by simp[Builtin.firstCells]) _ ys.length news hsrc (by omega) (by omega) (by simpa using growslice_fits (need:=ys.length) (old:=0) hpos hlim);simp only[Nat.zero_add,List.nil_append]at hrun;have hlayout:Lay gid w M μ news.toArray i.size ys:=⟨by simpa using hsrc.newsLen,fun k el hk=>⟨(hsh.1 k el hk).1,(hsh.1 k el hk).2.1,fun j c hj=>by simpa using hlay k el j c hk hj⟩⟩
 have hge:=grownCap_ge w ys.length 0 e;have hout:=qji (n0:=n0) hn hs (Same.drew w) hlayout (fun el hel=>by
  obtain⟨k,hk⟩:=List.getElem?_of_mem hel;exact(hsh.1 k el hk).2.2) (Builtin.zeroCells zv.cells (grownCap w ys.length 0 e-ys.length)) e ys.length (grownCap w ys.length 0 e) hge (by
   rw[size_zeroCells,hzs];have:=hsrc.newsLen;simp only[List.size_toArray,this,<-Nat.add_mul];exact Nat.mul_le_mul_right _ (by omega))
 obtain⟨M',μ',hst,hr⟩:=hout;exact⟨_,_,M',μ',hrun,hst,hr⟩
theorem qui {P:Program}(hn:n0<=H.length)(hs:Sim gid w M μ H)(t tx ty e e':TypeId)(i:TypeInfo)(zv:Value)(ht:P.underlying t=some (.slice e))(htx:P.underlying tx=some (.slice e'))(hi:P.info? e=some i)(hz:i.zero=some zv)
 (hzs:zv.cells.size=i.size) (h0:0<i.size) {x' y':Value} {b off len:Nat} {k:Blk} (hx:R gid w M μ x' (.ref b i.size off len)) (hk:H[b]?=some (some k)) (hka:k.arr=true) (hkw:k.wr=true) (hfitk:off+len<=k.el.length)
 {ys:List V} {a:Option Addr} {cap:Nat} (hy:y'=.slice a ys.length cap) (hsh:Shown gid w M μ a i.size ys)
 (hlim:(len+ys.length)*i.bytes<=140737488355328) (h63:len+ys.length<=9223372036854775807) :
 ∃v' w' M' μ',(Builtin.append_ #[t,tx] ty #[x',y']).run P w=.ok v' w' /\
  (if ys=[]then Step gid n0 w M μ H w' M' μ' H/\R gid w' M' μ' v' (.ref b i.size off len)
   else Step gid n0 w M μ H w' M' μ' (H.set b none++[some ⟨i.size,(k.el.drop off).take len++ys,true,true⟩])/\R gid w' M' μ' v' (.ref H.length i.size 0 (len+ys.length))):=by
 subst hy;obtain⟨news,hsrc,hlay⟩:=hsh.src htx (cap:=cap) h0;obtain⟨ax,capx,c,base,arr,et,rfl,hc,hsp,hcap,hμ,hoff,hw,hsz,hcs⟩:=qjg hs hk (hx.inv_rc rfl);obtain⟨bx,ox,sx⟩:=ax;simp only at hc hsp hoff hsz hcs;subst hc;subst hsp;have hnl:=hsrc.newsLen;have hlen:((k.el.drop off).take len).length=len:=by simp;omega
 by_cases hys:ys=[]
 ·have hnews:news=[]:=by apply List.eq_nil_of_length_eq_zero;rw[hnl,hys];simp
  have hy0:ys.length=0:=by rw[hys];rfl
  have hrun:=qn7 (P:=P) (w:=w) t tx ty e i ht hi bx ox len capx arr et hw _ ys.length news hsrc (by omega) (by
   rw[hnews];have:=Nat.mul_le_mul_right i.size hcap;simp only[List.length_nil];omega)
  rw[hnews,qyc w bx arr et hw,hy0,Nat.add_zero]at hrun;rw[hy0];refine⟨_,w,M,μ,hrun,?_⟩;rw[if_pos hys];exact⟨.refl hs,hx⟩
 ·have hpos:0<ys.length:=List.length_pos_iff.2 hys;have hpure:∀el ∈ (k.el.drop off).take len++ys,el.pure=true:=by
   intro el hel;rcases List.mem_append.1 hel with h1|h1
   ·obtain⟨q,hq⟩:=List.getElem?_of_mem h1;exact(hcs q el hq).2.2.1 hka
   ·obtain⟨q,hq⟩:=List.getElem?_of_mem h1;exact(hsh.1 q el hq).2.2
  by_cases hroom:len+ys.length<=capx
  ·have hm1:=Nat.mul_le_mul_right i.size hroom;rw[Nat.add_mul]at hm1;have hfit:ox+len*i.size+news.length<=arr.size:=by rw[hnl];omega
   have hrun:=qn7 (P:=P) (w:=w) t tx ty e i ht hi bx ox len capx arr et hw _ ys.length news hsrc hroom hfit;refine⟨_,_,M,(fun x=>if x=H.length then some (bx,ox,i.size)else μ x),hrun,?_⟩;rw[if_neg hys];have hst:=Step.regrow (n0:=n0) (k':=⟨i.size,(k.el.drop off).take len++ys,true,true⟩) (base':=ox) hn hs hμ hk hkw rfl rfl arr (qib arr (ox+len*i.size) news) et hw (qjy _ _ _ hfit)
    (by simp only[List.length_append,hlen];rw[Nat.add_mul];omega)
    (fun q el hq=>by
     simp only at hq;by_cases hql:q<len
     ·rw[List.getElem?_append_left (by omega)]at hq;obtain⟨h1,h2,h3,h4⟩:=hcs q el hq;refine⟨h1,h2,fun j cv hj=>?_⟩;obtain⟨x,hxx,hr⟩:=h4 j cv hj;refine⟨x,?_,hr⟩;have hjz:j<i.size:=by rw[<-h2];exact(List.getElem?_eq_some_iff.1 hj).1
      have:(q+1)*i.size<=len*i.size:=Nat.mul_le_mul_right _ hql;rw[Nat.add_mul]at this;rw[qdg _ _ _ hfit,if_pos (by omega)];exact hxx
     ·rw[List.getElem?_append_right (by omega),hlen]at hq;obtain⟨h1,h2,h3⟩:=hsh.1 _ el hq;refine⟨h1,h2,fun j cv hj=>?_⟩;obtain⟨x,hxx,hr⟩:=hlay _ el j cv hq hj;refine⟨x,?_,hr⟩;have hjz:j<i.size:=by rw[<-h2];exact(List.getElem?_eq_some_iff.1 hj).1
      have hqy:q-len<ys.length:=(List.getElem?_eq_some_iff.1 hq).1;have h5:q*i.size=len*i.size+(q-len)*i.size:=by rw[<-Nat.add_mul];congr 1;omega
      have h6:(q-len+1)*i.size<=ys.length*i.size:=Nat.mul_le_mul_right _ hqy;rw[Nat.add_mul]at h6;rw[qdg _ _ _ hfit,if_neg (by omega),if_pos (by omega),show ox+(q*i.size+j)-(ox+len*i.size)=(q-len)*i.size+j by omega];exact hxx) (fun _=>hpure)
   refine⟨hst,.c (.ref _ _ _ _ bx ox capx ⟨bx,ox,none⟩ (qib arr (ox+len*i.size) news) et (0,0) (by simp) rfl rfl (by omega) (.inr (by simp)) (setRow_heap w bx arr _ et (0,0) hw) (by rw[qjy _ _ _ hfit];exact hsz))⟩
  ·have⟨olds,ho1,ho2,ho3,ho4⟩:∃olds:List Value,olds.length=len*i.size/\(∀(j:Nat) (u:Value),olds[j]?=some u->w.cell? ((⟨bx,ox,none⟩:Addr).add j)=some u)/\(∀u ∈ olds,u.oneCell'=true) /\
    ∀(q:Nat) (el:V) (j:Nat) (cv:V),((k.el.drop off).take len)[q]?=some el->el.cells[j]?=some cv->∃x,olds[q*i.size+j]?=some x/\RC gid w M μ x cv:=by
    have:=Shown.lay (gid:=gid) (w:=w) (M:=M) (μ:=μ) (a:=⟨bx,ox,none⟩) (ys:=(k.el.drop off).take len) h0 ⟨fun q el hq=>⟨(hcs q el hq).1,(hcs q el hq).2.1,(hcs q el hq).2.2.1 hka⟩,fun _=>⟨_,rfl,fun q el j cv hq hj=>by
     obtain⟨x,hxx,hr⟩:=(hcs q el hq).2.2.2 j cv hj;exact⟨x,by rw[Addr.add_lit,cell_of_row w bx _ arr et (0,0) hw,hxx],hr⟩⟩⟩
    rwa[hlen]at this
   have hrun:=run_append_grow_src (P:=P) w t tx ty e i zv ht hi hz (some ⟨bx,ox,none⟩) len capx olds (run_firstCells_some w.drew i.size len _ len capx olds ho1 (by simpa using ho2)) _ ys.length news hsrc (by omega) (by omega) (growslice_fits (by omega) hlim);have hlayout:Lay gid w M μ (olds++news).toArray i.size ((k.el.drop off).take len++ys):=by
    refine⟨by simp only[List.size_toArray,List.length_append,ho1,hnl,hlen];rw[Nat.add_mul],fun q el hq=>?_⟩;by_cases hql:q<len
    ·rw[List.getElem?_append_left (by omega)]at hq;obtain⟨h1,h2,h3,h4⟩:=hcs q el hq;refine⟨h1,h2,fun j cv hj=>?_⟩;obtain⟨x,hxx,hr⟩:=ho4 q el j cv hq hj;refine⟨x,?_,hr⟩;rw[List.getElem?_toArray,List.getElem?_append_left (List.getElem?_eq_some_iff.1 hxx).1];exact hxx
    ·rw[List.getElem?_append_right (by omega),hlen]at hq;obtain⟨h1,h2,h3⟩:=hsh.1 _ el hq;refine⟨h1,h2,fun j cv hj=>?_⟩;obtain⟨x,hxx,hr⟩:=hlay _ el j cv hq hj;refine⟨x,?_,hr⟩;have h5:q*i.size=len*i.size+(q-len)*i.size:=by rw[<-Nat.add_mul];congr 1;omega
     rw[List.getElem?_toArray,List.getElem?_append_right (by omega),ho1,show q*i.size+j-len*i.size=(q-len)*i.size+j by omega];exact hxx
   have hkill:=Step.kill (n0:=n0) (b:=b) hs;have hge:=grownCap_ge w (len+ys.length) capx e;obtain⟨M',μ',hst,hr⟩:=qji (n0:=n0) (by simpa using hn) hkill.sim (Same.drew w) hlayout hpure (Builtin.zeroCells zv.cells (grownCap w (len+ys.length) capx e-(len+ys.length))) e (len+ys.length) (grownCap w (len+ys.length) capx e) hge (by
    rw[size_zeroCells,hzs];simp only[List.size_toArray,List.length_append,ho1,hnl];rw[<-Nat.add_mul,<-Nat.add_mul];exact Nat.mul_le_mul_right _ (by omega))
   refine⟨_,_,M',μ',hrun,?_⟩;rw[if_neg hys];simp only[List.length_set]at hr;exact⟨hkill.trans hst,hr⟩
theorem qq9 {P:Program}(hn:n0<=H.length)(hs:Sim gid w M μ H)(t tx ty e:TypeId)(k k':IntKind)(i:TypeInfo)(zv:Value){c:V}(ht:P.underlying t=some (.slice e))(htx:P.underlying tx=some (.int k))(hi:P.info? e=some i)(hz:i.zero=some zv)
 (hc:R gid w M μ zv c) (hct:c.isTup=false) (hcz:c.cells.length=i.size) (hcp:c.pure=true) (h0:0<i.size) {n:Nat} (hn0:0<n) (hlim:n*i.bytes<=140737488355328) (h63:n<=9223372036854775807) :
 ∃v' w' M' μ',(Builtin.append_ #[t,tx] ty #[.slice none 0 0,.int k' (n:Int)]).run P w=.ok v' w'/\Step gid n0 w M μ H w' M' μ' (H++[some ⟨i.size,List.replicate n c,true,true⟩])/\R gid w' M' μ' v' (.ref H.length i.size 0 n):=by
 have hzs:zv.cells.size=i.size:=by rw[(hc.cells hct).1,hcz]
 have hfit:=growslice_fits (need:=n) (old:=0) hn0 hlim;have hw:IntKind.i64.wrap (n:Int)=(n:Int):=by rw[IntKind.wrap_i64];omega
 have hb:¬(281474976710656<(n:Int)*i.bytes):=by
  have:((n*i.bytes:Nat):Int)<=140737488355328:=by omega
  rw[Int.natCast_mul]at this;omega
 have hne:¬(n<=0):=by omega
 have h63':¬(9223372036854775807<(n:Int)):=by omega
 have h48':¬(281474976710656<Builtin.nextslicecap n 0*i.bytes):=by omega
 have hz0:¬(n*i.size=0):=by have:=Nat.mul_pos hn0 h0;omega
 have hn1:¬(n=0):=by omega
 have hneg:¬((n:Int)<0):=by omega
 have hge:=grownCap_ge w n 0 e;have hrun:(Builtin.append_ #[t,tx] ty #[.slice none 0 0,.int k' (n:Int)]).run P w=.ok (.slice (some ⟨w.heap.size,0,none⟩) n (grownCap w n 0 e)) (w.drew.alloc (.cells ((Array.range (n*i.size)).map (fun j=>zv.cells[j%zv.cells.size]!)++Builtin.zeroCells zv.cells (grownCap w n 0 e-n)) e)):=by
  simp[Builtin.append_,run_underlying ht,run_underlying htx,sizeOf,typeInfo,zeroValue,hi,hz,asInt,asIntOf,hw,hb,hn1,hneg,h63',h48',hz0,Question.forced,newRow,grownCap,Builtin.firstCells,Builtin.zeroCells,hzs]
 have hze:=qr4 hc hct hcz n;obtain⟨M',μ',hst,hr⟩:=qji (n0:=n0) hn hs (Same.drew w) hze (fun x hx=>by rw[List.eq_of_mem_replicate hx];exact hcp) (Builtin.zeroCells zv.cells (grownCap w n 0 e-n)) e n (grownCap w n 0 e) hge (by
  rw[size_zeroCells,hzs];simp only[Array.size_map,Array.size_range,<-Nat.add_mul];exact Nat.mul_le_mul_right _ (by omega))
 exact⟨_,_,M',μ',hrun,hst,hr⟩
theorem qadi {P:Program}(hs:Sim gid w M μ H)(t tx ty e _e':TypeId)(i:TypeInfo)(ht:P.underlying t=some (.slice e))(hi:P.info? e=some i)(h0:0<i.size)
 {x' y':Value} {b off len:Nat} {k:Blk} (hx:R gid w M μ x' (.ref b i.size off len)) (hk:H[b]?=some (some k)) (_hka:k.arr=true) (hkw:k.wr=true) (hfitk:off+len<=k.el.length)
 {ys:List V} {a:Option Addr} {cap:Nat} (hy:y'=.slice a ys.length cap) (hsh:Shown gid w M μ a i.size ys) :
 ∃w',(Builtin.copy_ #[t,tx] ty #[x',y']).run P w=.ok (.int .i64 (Nat.min ys.length len:Nat)) w'/\Step gid n0 w M μ H w' M μ (H.set b (some { k with el:=qcq k.el off (ys.take len) })):=by
 subst hy;obtain⟨ax,capx,c,base,arr,et,rfl,hc,hsp,hcap,hμ,hoff,hw,hsz,hcs⟩:=qjg hs hk (hx.inv_rc rfl);obtain⟨bx,ox,sx⟩:=ax;simp only at hc hsp hoff hsz hcs;subst hc;subst hsp;have hblk:=hs.blk b bx base i.size k hμ hk;obtain⟨arr1,et1,l1,l2,l3⟩:=hblk.lay;rw[hw]at l1;injection l1 with l1
 injection l1 with w1 w2 w3
 subst w1;subst w2;have hml:(ys.take len).length=Nat.min ys.length len:=by rw[List.length_take];exact Nat.min_comm _ _
 have hmle:Nat.min ys.length len<=len:=Nat.min_le_right _ _;have⟨news,hn1,hn2,hn3,hn4⟩:∃news:List Value,news.length=(ys.take len).length*i.size/\(Builtin.firstCells i.size (Nat.min ys.length len) (.slice a ys.length cap)).run P w=.ok news.toArray w/\(∀u ∈ news,u.oneCell'=true) /\
  ∀(q:Nat) (el:V) (j:Nat) (cv:V),(ys.take len)[q]?=some el->el.cells[j]?=some cv->∃x,news[q*i.size+j]?=some x/\RC gid w M μ x cv:=by
  cases a with
  |none=>
   cases ys with
   |nil=>exact⟨[],by simp,by simp[Builtin.firstCells],by simp,by simp⟩
   |cons y ys=>obtain⟨_,he,_⟩:=hsh.2 (by simp);cases he
  |some a=>
   have hsh':Shown gid w M μ (some a) i.size (ys.take len):=by
    refine⟨fun q el hq=>hsh.1 q el ?_,fun hne=>?_⟩
    ·rw[List.getElem?_take]at hq;split at hq
     ·exact hq
     ·cases hq
    ·obtain⟨ad,he,hc⟩:=hsh.2 (by intro h;rw[h]at hne;simp at hne);refine⟨ad,he,fun q el j cv hq hj=>hc q el j cv ?_ hj⟩;rw[List.getElem?_take]at hq;split at hq
     ·exact hq
     ·cases hq
   obtain⟨news,g1,g2,g3,g4⟩:=hsh'.lay h0;exact⟨news,g1,run_firstCells_some w i.size (Nat.min ys.length len) a ys.length cap news (by rw[g1,hml]) g2,g3,g4⟩
 rw[hml]at hn1;have hrow:(off+len)*i.size<=k.el.length*i.size:=Nat.mul_le_mul_right _ hfitk;rw[Nat.add_mul]at hrow;have hmz:Nat.min ys.length len*i.size<=len*i.size:=Nat.mul_le_mul_right _ hmle;by_cases hm0:Nat.min ys.length len=0
 ·have hnil:ys.take len=[]:=List.eq_nil_of_length_eq_zero (by rw[hml];exact hm0);have hnews:news=[]:=List.eq_nil_of_length_eq_zero (by rw[hn1,hm0];simp);subst hnews;refine⟨w,?_,?_⟩
  ·simp only[Nat.min_def]at hn2 hm0 ⊢;simp[Builtin.copy_,run_underlying ht,Builtin.lenOf,sizeOf,typeInfo,hi,Nat.min_def,hn2,storeCells,goInt]
  ·have:({ k with el:=qcq k.el off (ys.take len) }:Blk)=k:=by
    rw[hnil];simp[qcq]
   rw[this];have hself:H.set b (some k)=H:=by
    apply List.ext_getElem?;intro q;by_cases hq:b=q
    ·subst hq;rw[List.getElem?_set_self (List.getElem?_eq_some_iff.1 hk).1,hk]
    ·rw[List.getElem?_set_ne hq]
   rw[hself];exact .refl hs
 ·have hcap0:capx≠0:=by omega
  have hox:ox=base+off*i.size:=hoff.resolve_left hcap0;have hfit:ox+news.length<=arr.size:=by rw[hn1,hox];omega
  have hst:=run_storeCells_at P bx ox et news 0 arr w hw (by simpa using hfit) hn3;simp only[Nat.add_zero]at hst;refine⟨_,?_,Step.write hs hμ hk hkw arr (qib arr ox news) et hw (qjy _ _ _ hfit) (qcq k.el off (ys.take len)) (by rw[qgr _ _ _ (by rw[hml];omega)];exact l2) ?_ ?_ ?_⟩
  ·simp only[Nat.min_def]at hn2 hst ⊢;simp[Builtin.copy_,run_underlying ht,Builtin.lenOf,sizeOf,typeInfo,hi,Nat.min_def,hn2,hst,goInt,qib]
  ·intro q el hq;rw[ql7 _ _ _ (by rw[hml];omega),hml]at hq;by_cases c1:q<off
   ·rw[if_pos c1]at hq;obtain⟨g1,g2,g3⟩:=l3 q el hq;refine⟨g1,g2,fun j cv hj=>?_⟩;obtain⟨x,hxx,hr⟩:=g3 j cv hj;refine⟨x,?_,hr⟩;have hjz:j<i.size:=by rw[<-g2];exact(List.getElem?_eq_some_iff.1 hj).1
    have h5:(q+1)*i.size<=off*i.size:=Nat.mul_le_mul_right _ c1;rw[Nat.add_mul]at h5;rw[qdg _ _ _ hfit,if_pos (by omega)];exact hxx
   ·rw[if_neg c1]at hq;by_cases c2:q<off+Nat.min ys.length len
    ·rw[if_pos c2]at hq;have hq2:ys[q-off]?=some el:=by
      rw[List.getElem?_take]at hq;split at hq
      ·exact hq
      ·cases hq
     obtain⟨g1,g2,g3⟩:=hsh.1 _ el hq2;refine⟨g1,g2,fun j cv hj=>?_⟩;obtain⟨x,hxx,hr⟩:=hn4 _ el j cv hq hj;refine⟨x,?_,hr⟩;have hjz:j<i.size:=by rw[<-g2];exact(List.getElem?_eq_some_iff.1 hj).1
     have h5:q*i.size=off*i.size+(q-off)*i.size:=by rw[<-Nat.add_mul];congr 1;omega
     have h6:(q-off+1)*i.size<=Nat.min ys.length len*i.size:=Nat.mul_le_mul_right _ (by omega);rw[Nat.add_mul]at h6;rw[qdg _ _ _ hfit,if_neg (by omega),if_pos (by omega),show base+(q*i.size+j)-ox=(q-off)*i.size+j by omega];exact hxx
    ·rw[if_neg c2]at hq;obtain⟨g1,g2,g3⟩:=l3 q el hq;refine⟨g1,g2,fun j cv hj=>?_⟩;obtain⟨x,hxx,hr⟩:=g3 j cv hj;refine⟨x,?_,hr⟩;have h5:(off+Nat.min ys.length len)*i.size<=q*i.size:=Nat.mul_le_mul_right _ (by omega);rw[Nat.add_mul]at h5;rw[qdg _ _ _ hfit,if_neg (by omega),if_neg (by omega)];exact hxx
  ·intro harr el hel;unfold qcq at hel;simp only[List.mem_append]at hel;rcases hel with (h1|h1)|h1
   ·exact hblk.pur harr el (List.mem_of_mem_take h1)
   ·obtain⟨q,hq⟩:=List.getElem?_of_mem (List.mem_of_mem_take h1);exact(hsh.1 q el hq).2.2
   ·exact hblk.pur harr el (List.mem_of_mem_drop h1)
  ·intro n hn hbn hlow el hel x hx;unfold qcq at hel;simp only[List.mem_append]at hel;rcases hel with (h1|h1)|h1
   ·exact hlow el (List.mem_of_mem_take h1) x hx
   ·obtain⟨q,hq⟩:=List.getElem?_of_mem (List.mem_of_mem_take h1);exact .cell (List.all_eq_true.1 (hsh.1 q el hq).2.2 x hx)
   ·exact hlow el (List.mem_of_mem_drop h1) x hx
end Go.Abs
namespace Go.Abs
variable {T : Tab} {w : World} {M : Nat → Prop} {μ : Inj} {H : Heap} {n0 : Nat}
theorem Out.of {v:V}{H1:Heap}{r:Result Next}{v':Value}{w':World}{M':Nat->Prop}{μ':Inj}(h:r=.ok (.value v') w')(hst:Step T.gid n0 w M μ H w' M' μ' H1)(hr:R T.gid w' M' μ' v' v):Out T.gid n0 w M μ H r v H1:=
 ⟨v',w',M',μ',.inl h,hst,hr⟩
theorem run_v {s:Sem Value}{P:Program}{v':Value}{w':World}(h:s.run P w=.ok v' w'):(do pure (Next.value (<-s)):Sem Next).run P w=.ok (.value v') w':=by simp[h]
theorem qas {P:Program}{t e:TypeId}(h:qem P t=some e):P.underlying t=some (.slice e):=by
 unfold qem at h;split at h
 ·injection h with h;subst h;assumption
 ·cases h
theorem qac {α β:Type}{x:Option α}{f:α->β}{b:β}(h:x.map f=some b):∃a,x=some a/\f a=b:=Option.map_eq_some_iff.1 h
theorem qaa {α β:Type}{x:Option α}{f:α->Option β}{b:β}(h:x.bind f=some b):∃a,x=some a/\f a=some b:=Option.bind_eq_some_iff.1 h
theorem qrk {o:Oper}{op:AOp}(hop:cOp T o.op=some op)(hn:n0<=H.length)(hs:Sim T.gid w M μ H){a:Act}{E:Env}(hE:ERel T.gid w M μ a.tmps E){v:V}{H1:Heap}(h:stp n0 op E H=some (v,H1)) :
 Out T.gid n0 w M μ H ((execOp a.eval o).run T.P w) v H1:=by
 obtain⟨dst,cop,ty,pos,after,guard⟩:=o;simp only at hop;cases cop
 case move x=>
  obtain⟨x',h1,rfl⟩:=qac hop;simp only[stp]at h;injection h with h;injection h with h2 h3;subst h2;subst h3
  exact .pure hs rfl (qaj hs.tab h1 hE)
 case assign x=>
  obtain⟨x',h1,rfl⟩:=qac hop;simp only[stp]at h;injection h with h;injection h with h2 h3;subst h2;subst h3
  exact .pure hs rfl (qaj hs.tab h1 hE)
 case pick c x y=>
  obtain⟨c',h1,hop⟩:=qaa hop;obtain⟨x',h2,hop⟩:=qaa hop;obtain⟨y',h3,rfl⟩:=qac hop;simp only[stp]at h;have hc:=qaj hs.tab h1 hE;split at h
  ·rename_i t ht;rw[ht]at hc;injection h with h;injection h with h4 h5;subst h4;subst h5
   refine .pure (v':=if t then a.eval x else a.eval y) hs (by simp[execOp,hc.inv_bool,asBool]) ?_;cases t
   ·exact qaj hs.tab h3 hE
   ·exact qaj hs.tab h2 hE
  ·cases h
 case alloc t=>
  obtain⟨zv,h1,hop⟩:=qaa hop;obtain⟨z,h2,hop⟩:=qaa hop;split at hop
  ·injection hop with hop;subst hop
   obtain⟨i,z',h3,h4,h5⟩:=qd6 h1;simp only[stp]at h;split at h
   ·rename_i hc;injection h with h;injection h with h6 h7;subst h6;subst h7
    obtain⟨M',μ',hst,hr⟩:=quz hn hs (qft h5).1 (qft (gid:=T.gid) (w:=w) (M:=M) (μ:=μ) h5).2.2 t;rw[hc.1]at hst;exact .of (by simp[execOp,Instr.alloc,qgs h3 h4,newVar,newRow]) hst hr
   ·cases h
  ·cases hop
 case box t x=>
  obtain⟨z,h1,hop⟩:=qaa hop;obtain⟨x',h2,rfl⟩:=qac hop;simp only[stp]at h;split at h
  ·rename_i hc;injection h with h;injection h with h6 h7;subst h6;subst h7
   obtain⟨M',μ',hst,hr⟩:=quz hn hs (qaj hs.tab h2 hE) hc.2 t;rw[hc.1]at hst;exact .of (by simp[execOp,Instr.box,newVar,newRow]) hst hr
  ·cases h
 case build t ps=>
  simp only[cOp]at hop;split at hop
  ·rename_i fs hu;split at hop
   ·rename_i hall;obtain⟨zv,h1,hop⟩:=qaa hop;obtain⟨ps',h2,rfl⟩:=qac hop;obtain⟨i,z',h3,h4,h5⟩:=qd6 h1;simp only[stp]at h;split at h
    ·obtain⟨cs,h6,h7⟩:=qac h;injection h7 with h7 h8;subst h7;subst h8
     have hz:=qft (gid:=T.gid) (w:=w) (M:=M) (μ:=μ) h5;have hzc:=hz.1.cells hz.2.2;obtain⟨hl,hpq⟩:=ql2 hs.tab (qhb T.P fs) ps.toList h2 hE;obtain⟨arr',h9,h10⟩:=qm9 (qhb T.P fs) _ _ ⟨hzc.1,hzc.2⟩ hl hpq h6;have hplaces:∀(l:List Field),(l.all fun f=>(szT T.P f.type).isSome)=true->(l.mapM fun f=>(do pure (f.offset,<-sizeOf f.type):Sem (Nat × Nat))).run T.P w=.ok (l.map fun f=>(f.offset,(szT T.P f.type).getD 0)) w:=by
      intro l;induction l with
      |nil=>intro _;rfl
      |cons f l ih=>
       intro hl;simp only[List.all_cons,Bool.and_eq_true]at hl;obtain⟨z1,hz1⟩:=Option.isSome_iff_exists.1 hl.1;rw[List.mapM_cons];simp only[Sem.run_bind,qbo hz1,Result.andThen_ok,Sem.run_pure,ih hl.2,List.map_cons,hz1,Option.getD_some]
     refine .of (v':=.agg arr') (w':=w) ?_ (.refl hs) (.agg _ _ h10.1 h10.2);have hm:(fs.mapM fun f=>(do pure (f.offset,<-sizeOf f.type):Sem (Nat × Nat))).run T.P w=.ok (fs.toList.map fun f=>(f.offset,(szT T.P f.type).getD 0)).toArray w:=by
      rw[Array.mapM_eq_mapM_toList];simp only[Sem.run_map,hplaces fs.toList hall,Result.andThen_ok]
     have hplace:(fun i=>(fs.toList.map fun f=>(f.offset,(szT T.P f.type).getD 0)).toArray[i]?)=qhb T.P fs:=by
      funext i;simp only[List.getElem?_toArray,List.getElem?_map,Array.getElem?_toList,qhb];cases hfi:fs[i]? with
      |none=>rfl
      |some f=>
       have:f ∈ fs.toList:=by rw[Array.mem_toList_iff];exact Array.mem_of_getElem? hfi
       obtain⟨z1,hz1⟩:=Option.isSome_iff_exists.1 (List.all_eq_true.1 hall f this);simp[hz1]
     simp only[execOp,Instr.build];refine run_v ?_;simp only[Sem.run_bind,qgs h3 h4,Result.andThen_ok,run_underlying hu,hm,Array.toList_map];rw[hplace,h9];rfl
    ·cases h
   ·cases hop
  ·rename_i n e hu;obtain⟨zv,h1,hop⟩:=qaa hop;obtain⟨s,h1',hop⟩:=qaa hop;obtain⟨ps',h2,rfl⟩:=qac hop;obtain⟨i,z',h3,h4,h5⟩:=qd6 h1;simp only[stp]at h;split at h
   ·obtain⟨cs,h6,h7⟩:=qac h;injection h7 with h7 h8;subst h7;subst h8
    have hz:=qft (gid:=T.gid) (w:=w) (M:=M) (μ:=μ) h5;have hzc:=hz.1.cells hz.2.2;obtain⟨hl,hpq⟩:=ql2 hs.tab (fun i=>some (i*s,s)) ps.toList h2 hE;obtain⟨arr',h9,h10⟩:=qm9 (fun i=>some (i*s,s)) _ _ ⟨hzc.1,hzc.2⟩ hl hpq h6;refine .of (v':=.agg arr') (w':=w) ?_ (.refl hs) (.agg _ _ h10.1 h10.2);simp only[execOp,Instr.build];refine run_v ?_;simp only[Sem.run_bind,qgs h3 h4,Result.andThen_ok,run_underlying hu,qbo h1',Array.toList_map];rw[h9];rfl
   ·cases h
  ·cases hop
 case buildSlice t len ps=>
  obtain⟨e,h1,hop⟩:=qaa hop;obtain⟨zv,h2,hop⟩:=qaa hop;obtain⟨z,h3,hop⟩:=qaa hop;obtain⟨ps',h4,hop⟩:=qaa hop;split at hop
  ·rename_i hcond;injection hop with hop;subst hop
   obtain⟨i,z',h5,h6,h7⟩:=qd6 h2;simp only[stp]at h;split at h
   ·rename_i hzc;obtain⟨⟨vs,Ha⟩,h8,h⟩:=qaa h;obtain⟨el,h9,h⟩:=qac h;injection h with h10 h11;subst h10;subst h11
    have hz:=qft (gid:=T.gid) (w:=w) (M:=M) (μ:=μ) h7;obtain⟨hrs,hidx⟩:=qqp hs.tab ps.toList h4 hE;obtain⟨Ma,hst,hrs',hpur,hlen⟩:=qjv (n0:=n0) _ hs h8 hrs;have hze:=qr4 (hst.r hs hz.1) hz.2.2 hzc.1 len;have hsame:(ps.toList.map fun p=>(p.1,a.eval p.2)).length=((ps'.map (·.1)).zip vs).length:=by
     have e1:vs.length=ps'.length:=by rw[<-hrs'.1,hrs.1];simp
     have e2:ps.toList.length=ps'.length:=by simpa using congrArg List.length hidx
     simp[e1];simpa using e2
    obtain⟨arr',g1,g2,g3,g4⟩:=qsx (gid:=T.gid) (w:=w) (M:=Ma) (μ:=μ) _ _ hze hsame (fun j p q hp hq=>by
     simp only[List.getElem?_map,Option.map_eq_some_iff]at hp;obtain⟨⟨i1,x1⟩,hp1,rfl⟩:=hp;obtain⟨i2,v2⟩:=q;rw[List.getElem?_zip_eq_some]at hq;obtain⟨hq1,hq2⟩:=hq;have hi1:(ps.toList.map (·.1))[j]?=some i1:=by simp only[List.getElem?_map,hp1,Option.map_some]
     rw[hidx,hq1]at hi1;injection hi1 with hi1
     refine⟨hi1.symm,hrs'.2 j (a.eval x1) v2 (by simp only[List.getElem?_map,hp1,Option.map_some]) hq2,hpur v2 (List.mem_of_getElem? hq2)⟩) (fun e he=>by
      rw[List.eq_of_mem_replicate he];exact hz.2.1) h9
    have hel:el.length=len:=by rw[g4];simp
    obtain⟨M',μ',hst2,hr⟩:=qji (n0:=n0) (by rw[hlen];exact hn) hst.sim (Same.refl w) g2 g3 #[] e len len (Nat.le_refl _) (by
     rw[g2.1,hel];simp)
    rw[Array.append_empty]at hst2 hr;refine .of (v':=.slice (some ⟨w.heap.size,0,none⟩) len len) ?_ (hst.trans hst2) hr;simp only[execOp,Instr.buildSlice];refine run_v ?_;have hne:¬(len*z > 2^24):=by omega
    simp only[Sem.run_bind,run_underlying (qas h1),Result.andThen_ok,qbo h3,hne,if_false,Array.toList_map];by_cases h0:len*z=0
    ·have he0:len=0:=by
      rcases Nat.mul_eq_zero.1 h0 with h|h
      ·exact h
      ·omega
     subst he0;simp only[Nat.zero_mul,if_true,pure_bind]at g1 ⊢;have:Array.map (fun x=>(#[]:Array Value)[x%(#[]:Array Value).size]!) (Array.range 0)=Array.map (fun i=>z'.cells[i%z'.cells.size]!) (Array.range 0):=by rw[Array.range_zero'];simp
     rw[this,g1];rfl
    ·rw[if_neg h0];simp only[Sem.run_bind,qgs h5 h6,Result.andThen_ok,Sem.run_pure];rw[g1];rfl
   ·cases h
  ·cases hop
 case load t x=>
  obtain⟨ag,h1,hop⟩:=qaa hop;obtain⟨z,h2,hop⟩:=qaa hop;obtain⟨x',h3,rfl⟩:=qac hop;simp only[stp]at h;have hx:=qaj hs.tab h3 hE;split at h
  ·rename_i cs hg;rw[hg]at hx;obtain⟨v1,h4,h5⟩:=qac h;injection h5 with h5 h6;subst h5;subst h6
   obtain⟨ad,he,hp⟩:=hx.inv_eptr;obtain⟨v',h7,h8⟩:=qju h1 h2 (qvj (μ:=μ) hp) h4;exact .pure hs (by simp only[execOp,Instr.loadAt,he,Instr.sureAddr,pure_bind];exact run_v h7) h8
  ·rename_i b i off hg;rw[hg]at hx;split at h
   ·rename_i k hk;split at h
    ·rename_i e he;obtain⟨v1,h4,h5⟩:=qac h;injection h5 with h5 h6;subst h5;subst h6
     obtain⟨c,base,zb,hμ,hv⟩:=hx.inv_ptr;obtain⟨v',h7,h8⟩:=qju h1 h2 (qz7 hs hμ hk he) h4;exact .pure hs (by simp only[execOp,Instr.loadAt,hv,Instr.sureAddr,pure_bind];exact run_v h7) h8
    ·cases h
   ·cases h
  ·cases h
 case store t x y=>
  obtain⟨z,h1,hop⟩:=qaa hop;obtain⟨x',h2,hop⟩:=qaa hop;obtain⟨y',h3,rfl⟩:=qac hop;simp only[stp,qjq]at h;have hx:=qaj hs.tab h2 hE;have hy:=qaj hs.tab h3 hE;split at h
  ·rename_i b i off hg;rw[hg]at hx;split at h
   ·rename_i k hk;split at h
    ·rename_i ht;obtain⟨⟨v1,Ha⟩,h4,h⟩:=qaa h;simp only[]at h;split at h
     ·rename_i k1 hk1;split at h
      ·rename_i e he;split at h
       ·rename_i hcond;obtain⟨c1,c2,c3,c4⟩:=hcond;injection h with h;injection h with h5 h6;subst h5;subst h6
        have main:∃Ma,Step T.gid n0 w M μ H w Ma μ Ha/\R T.gid w Ma μ (a.eval y) v1/\v1.isTup=false/\(k1.arr=true\/b<n0->v1.pure=true):=by
         split at h4
         ·obtain⟨Ma,g1,g2,g3,_⟩:=qk7 (n0:=n0) hs h4 hy;exact⟨Ma,g1,g2,by cases v1<;>first|rfl| (simp[V.pure,V.cells,V.cellPure]at g3),fun _=>g3⟩
         ·rename_i hno;injection h4 with h4;injection h4 with h5 h6;subst h5;subst h6
          exact⟨M,.refl hs,hy,ht,fun hc=>absurd (by rw[<-c2];exact hc) hno⟩
        obtain⟨Ma,g1,g2,g3,g4⟩:=main;obtain⟨w',g5,g6⟩:=q7o (n0:=n0) h1 g1.sim (g1.r hs hx) g2 g3 hk1 he c1 c3 c4 g4;exact⟨Go.undef,w',Ma,μ,.inr ⟨by simp only[execOp,Sem.run_bind,g5,Result.andThen_ok];rfl,rfl⟩,g1.trans g6,R.undef⟩
       ·cases h
      ·cases h
     ·cases h
    ·cases h
   ·cases h
  ·cases h
 case binOp bop t x y u=>
  obtain⟨bk,h1,hop⟩:=qaa hop;obtain⟨x',h2,hop⟩:=qaa hop;obtain⟨y',h3,rfl⟩:=qac hop;simp only[stp]at h;obtain⟨v1,h4,h5⟩:=qac h;injection h5 with h5 h6;subst h5;subst h6
  obtain⟨v',h7,h8⟩:=q6k h1 (qaj hs.tab h2 hE) (qaj hs.tab h3 hE) h4 x y;exact .pure hs (by simp only[execOp];exact run_v h7) h8
 case unOp uop t x=>
  obtain⟨x',h2,rfl⟩:=qac hop;simp only[stp]at h;obtain⟨v1,h4,h5⟩:=qac h;injection h5 with h5 h6;subst h5;subst h6
  obtain⟨v',h7,h8⟩:=q65 (P:=T.P) (qaj hs.tab h2 hE) h4;exact .pure hs (by simp only[execOp];exact run_v h7) h8
 case convert src dst x=>
  simp only[cOp]at hop;split at hop
  ·rename_i ds k hu1 hu2;obtain⟨x',h2,rfl⟩:=qac hop;simp only[stp]at h;split at h
   ·rename_i k' n hg;have hx:=qaj hs.tab h2 hE;rw[hg]at hx;injection h with h;injection h with h5 h6;subst h5;subst h6
    refine .pure hs ?_ (.c (.p (.int k (k.wrap n))));simp only[execOp,hx.inv_int];refine run_v ?_;unfold convert;simp only[Sem.run_bind,run_underlying hu1,run_underlying hu2,Result.andThen_ok];rfl
   ·cases h
  ·cases hop
 case makeFunc fn first caps=>
  cases fn<;>simp only[cOp]at hop<;>try(cases hop;done)
  rename_i f;split at hop
  ·rename_i hf0;obtain⟨g,h1,hop⟩:=qaa hop;obtain⟨cs,h2,rfl⟩:=qac hop;simp only[stp]at h;split at h
   ·rename_i hcells;injection h with h;injection h with h5 h6;subst h5;subst h6
    have hcs:=qz8 hs.tab caps.toList h2 hE;have hfe:first=#[]:=Array.eq_empty_of_size_eq_zero hf0
    subst hfe;refine .pure hs (v':=.func (.func f) #[] (caps.map a.eval)) (by simp[execOp,Instr.makeFunc]) (.c (.fn f g _ _ h1 (by simpa using hcs.1) fun i v c hv hc=>?_));exact(hcs.2 i v c (by simpa using hv) hc).inv_rc (List.all_eq_true.1 hcells c (List.mem_of_getElem? hc))
   ·cases h
  ·cases hop
 case makeSlice t l c=>
  obtain⟨e,h1,hop⟩:=qaa hop;obtain⟨zv,h2,hop⟩:=qaa hop;obtain⟨z,h3,hop⟩:=qaa hop;obtain⟨ti,h4,hop⟩:=qaa hop;obtain⟨l',h5,hop⟩:=qaa hop;obtain⟨c',h6,hop⟩:=qaa hop;split at hop
  ·rename_i hcond;injection hop with hop;subst hop
   obtain⟨i,z',g1,g2,g3⟩:=qd6 h2;obtain⟨i2,g4,g5⟩:=qk5 h3;rw[h4]at g1;injection g1 with g1;subst g1
   rw[h4]at g4;injection g4 with g4;subst g4
   simp only[stp]at h;split at h
   ·rename_i ln cn hl hc;split at h
    ·rename_i hb;obtain⟨b1,b2,b3,b4,b5⟩:=hb;injection h with h;injection h with h7 h8;subst h7;subst h8
     obtain⟨kl,il,e1,e2,e3,e4⟩:=qb8 (qaj hs.tab h5 hE) hl;obtain⟨kc,ic,e5,e6,e7,e8⟩:=qb8 (qaj hs.tab h6 hE) hc;have hz:=qft (gid:=T.gid) (w:=w) (M:=M) (μ:=μ) g3;have hr:=run_make (P:=T.P) w t e ti z' (qas h1) h4 g2 kl kc il ic e2 (by omega) (by
      rw[e8];have:((cn*ti.bytes:Nat):Int)<=281474976710656:=by omega
      rw[Int.natCast_mul,Int.mul_comm]at this;exact this) (by omega)
     rw[e3,e7,g5]at hr;have hze:=qr4 hz.1.soft (V.soft_tup hz.2.2) b4 cn;obtain⟨M',μ',hst,hro⟩:=qji (n0:=n0) hn hs (Same.refl w) hze (fun x hx=>by rw[List.eq_of_mem_replicate hx];exact b5) #[] e ln cn b1 (by simp);rw[Array.append_empty]at hst hro;refine .of ?_ hst hro;simp only[execOp,e1,e5];refine run_v ?_;rw[hr,qyx]
    ·cases h
   ·cases h
  ·cases hop
 case slice t x lo hi mx=>
  obtain⟨e,h1,hop⟩:=qaa hop;obtain⟨z,h2,hop⟩:=qaa hop;obtain⟨x',h3,hop⟩:=qaa hop;obtain⟨lo',h4,hop⟩:=qaa hop;obtain⟨hi',h5,hop⟩:=qaa hop;obtain⟨mx',h6,hop⟩:=qaa hop;split at hop
  ·cases hop
  ·rename_i hmh;injection hop with hop;subst hop
   have hx:=qaj hs.tab h3 hE;have hmh':(mx.map a.eval).isSome=true->(hi.map a.eval).isSome=true:=by
    intro hm;have e1:mx'.isSome=true:=by
     cases mx with
     |none=>simp at hm
     |some m=>simp only[cOX]at h6;obtain⟨q,_,rfl⟩:=qac h6;rfl
    cases hi with
    |some q=>rfl
    |none=>
     simp only[cOX]at h5;injection h5 with h5
     subst h5;exact absurd ⟨e1,rfl⟩ hmh
   simp only[stp]at h;split at h
   ·rename_i hg;rw[hg]at hx;split at h
    ·rename_i q1 q2 q3;injection h with h;injection h with h7 h8;subst h7;subst h8
     have hr:=qjt (P:=T.P) (w:=w) (a:=none) (len:=0) (cap:=0) (qas h1) h2 (qbm hs.tab h4 hE q1) (qbm hs.tab h5 hE q2) (qbm hs.tab h6 hE q3) (Nat.le_refl _) (Nat.le_refl _) (Nat.le_refl _) hmh';refine .pure (v':=.slice none 0 0) hs ?_ (.c (.p .nil));simp only[execOp,hx.inv_nil];refine run_v ?_;rw[hr];rfl
    ·cases h
   ·rename_i l hg;rw[hg]at hx;split at h
    ·rename_i lo0 hi0 mx0 q1 q2 q3;split at h
     ·rename_i hb;obtain⟨b1,b2,b3,b4⟩:=hb;injection h with h;injection h with h7 h8;subst h7;subst h8
      obtain⟨ad,len,cap,hv,hlen,hcap,hp⟩:=hx.inv_sl;subst hlen;cases mx with
      |none=>
       simp only[cOX]at h6;injection h6 with h6;subst h6
       simp only[qbi]at q3;injection q3 with q3;subst q3
       have hr:=qjt (P:=T.P) (w:=w) (a:=ad) (len:=l.length) (cap:=cap) (mx:=none) (qas h1) h2 (qbm hs.tab h4 hE q1) (qbm hs.tab h5 hE q2) rfl b1 (by omega) (Nat.le_refl _) (by simp);refine .pure hs ?_ (.c (.p (RP.slice hp b1 (m:=cap) (by omega) (Nat.le_refl _) (by omega) b4)));simp only[execOp,hv,Option.map_none];exact run_v hr
      |some m=>
       have q3':=qbm hs.tab (d:=cap) h6 hE (n:=mx0) (by
        simp only[cOX]at h6;obtain⟨q,_,rfl⟩:=qac h6;exact q3)
       have hr:=qjt (P:=T.P) (w:=w) (a:=ad) (len:=l.length) (cap:=cap) (qas h1) h2 (qbm hs.tab h4 hE q1) (qbm hs.tab h5 hE q2) q3' b1 b2 (by omega) hmh';refine .pure hs ?_ (.c (.p (RP.slice hp b1 (m:=mx0) b2 (by omega) (by omega) b4)));simp only[execOp,hv];exact run_v hr
     ·cases h
    ·cases h
   ·rename_i b z' off len hg;rw[hg]at hx;cases mx with
    |some m=>
     simp only[cOX]at h6;obtain⟨q,_,rfl⟩:=qac h6
     revert h
     cases qbi E 0 lo'<;>cases qbi E len hi'<;>intro h<;>cases h
    |none=>
     simp only[cOX]at h6;injection h6 with h6
     subst h6;cases q1:qbi E 0 lo' with
     |none=>rw[q1]at h;cases h
     |some lo0=>
      cases q2:qbi E len hi' with
      |none=>rw[q1,q2]at h;cases h
      |some hi0=>
       rw[q1,q2]at h;simp only[]at h;split at h
       ·rename_i hb;obtain⟨b1,b2,b3⟩:=hb;injection h with h;injection h with h7 h8;subst h7;subst h8;subst b3
        obtain⟨ad,cap,c,base,arr,et,fr,hv,hμ,hcb,hsp,hcap,hoff,hw,hsz⟩:=hx.inv_ref;have hr:=qjt (P:=T.P) (w:=w) (a:=some ad) (len:=len) (cap:=cap) (mx:=none) (qas h1) h2 (qbm hs.tab h4 hE q1) (qbm hs.tab h5 hE q2) rfl b1 (by omega) (Nat.le_refl _) (by simp);refine .pure hs (v':=.slice (if cap=lo0 then some ad else(some ad).map (·.add (lo0*z'))) (hi0-lo0) (cap-lo0)) ?_ (.c ?_)
        ·simp only[execOp,hv,Option.map_none];exact run_v hr
        ·by_cases hcl:cap=lo0
         ·rw[if_pos hcl];exact .ref _ _ _ _ c base _ ad arr et fr hμ hcb hsp (by omega) (.inl (by omega)) hw (by
           have:cap-lo0=0:=by omega
           rw[this];omega)
         ·rw[if_neg hcl,Option.map_some,qih hsp];refine .ref _ _ _ _ c base _ _ arr et fr hμ hcb rfl (by omega) (.inr ?_) hw ?_
          ·have ho:=hoff.resolve_left (by omega);simp only;rw[ho,Nat.add_mul];omega
          ·simp only;have e1:cap*z'=lo0*z'+(cap-lo0)*z':=by rw[<-Nat.add_mul];congr 1;omega
           omega
       ·cases h
   ·cases h
 case fieldAddr s x f=>
  simp only[cOp]at hop;split at hop
  ·rename_i fs hu;obtain⟨fd,h1,hop⟩:=qaa hop;obtain⟨z,h2,hop⟩:=qaa hop;obtain⟨x',h3,hop⟩:=qaa hop;split at hop
   ·cases hop
   ·rename_i hz;injection hop with hop;subst hop
    have hx:=qaj hs.tab h3 hE;simp only[stp]at h;split at h
    ·rename_i b i o hg;rw[hg]at hx;injection h with h;injection h with h7 h8;subst h7;subst h8
     obtain⟨c,base,zb,hμ,hv⟩:=hx.inv_ptr;refine .pure hs (v':=.pointer (some ⟨c,base+(i*zb+o)+fd.offset,none⟩)) ?_ (.c (.ptr _ _ _ c base zb _ hμ (by omega)));simp only[execOp,hv];refine run_v ?_;simp[Instr.fieldAt,run_underlying hu,h1,Instr.sureAddr,qmq h2 hz,Addr.add_lit]
    ·rename_i cs hg;rw[hg]at hx;injection h with h;injection h with h7 h8;subst h7;subst h8
     obtain⟨ad,hv,hp⟩:=hx.inv_eptr;refine .pure hs ?_ (.c (.p (hp.eptr_drop fd.offset)));simp only[execOp,hv];refine run_v ?_;simp[Instr.fieldAt,run_underlying hu,h1,Instr.sureAddr,qmq h2 hz]
    ·cases h
  ·cases hop
 case field t x f=>
  simp only[cOp]at hop;split at hop
  ·rename_i fs hu;obtain⟨fd,h1,hop⟩:=qaa hop;obtain⟨ag,h2,hop⟩:=qaa hop;obtain⟨z,h3,hop⟩:=qaa hop;obtain⟨x',h4,rfl⟩:=qac hop;have hx:=qaj hs.tab h4 hE;simp only[stp]at h;split at h
   ·rename_i cs hg;rw[hg]at hx;obtain⟨v1,h5,h6⟩:=qac h;injection h6 with h6 h7;subst h6;subst h7
    obtain⟨arr,hv,hsz,hr⟩:=hx.inv_agg;obtain⟨v',h8,h9⟩:=q3c (P:=T.P) h2 h3 hsz hr h5;refine .pure hs ?_ h9;simp only[execOp,hv];refine run_v ?_;simp[Instr.field,run_underlying hu,h1,asAgg,h8]
   ·cases h
  ·cases hop
 case indexAddr t x ix=>
  simp only[cOp]at hop;split at hop
  ·rename_i e hu;obtain⟨z,h2,hop⟩:=qaa hop;obtain⟨x',h3,hop⟩:=qaa hop;obtain⟨i',h4,rfl⟩:=qac hop;have hx:=qaj hs.tab h3 hE;have hi:=qaj hs.tab h4 hE;simp only[stp]at h;split at h
   ·rename_i l n hg hn';rw[hg]at hx;split at h
    ·rename_i el hl;split at h
     ·rename_i hz;injection h with h;injection h with h7 h8;subst h7;subst h8
      obtain⟨k,iv,e1,e2,e3,e4⟩:=qb8 hi hn';obtain⟨ad,len,cap,hv,hlen,hcap,hp⟩:=hx.inv_sl;have hlt:n<l.length:=(List.getElem?_eq_some_iff.1 hl).1;cases hp with
      |sl0=>simp at hlt
      |sl a0 len cap s l f hl0 ha hM hb hc' hs' hc hr'=>
       have hne:l≠[]:=fun h0=>by subst h0;simp at hlt
       replace ha:=ha hne;replace hM:=hM hne;replace hb:=hb hne
       refine .pure hs (v':=.pointer (some (a0.add (n*z)))) ?_ (.c (.p ?_))
       ·simp only[execOp,hv,e1];refine run_v ?_;have hcond:0<=iv/\iv<(len:Int):=by omega
        simp[Instr.indexAt,asIntOf,run_underlying hu,qbo h2,hcond.1,hcond.2,e3]
       ·rw[qih ha];have hsz:s=z:=by rw[<-hz,hs' n el hl]
        refine .eptr _ _ (fun j=>f n j) rfl hM hb (fun j c hj=>?_) (fun j c hj=>hr' n el j c hl hj);have:=hc n el j c hl hj;rw[<-this,hsz]
        congr 1
        simp only[Addr.mk.injEq,true_and,and_true];omega
     ·cases h
    ·cases h
   ·rename_i b z' off len n hg hn';rw[hg]at hx;split at h
    ·rename_i hb;injection h with h;injection h with h7 h8;subst h7;subst h8
     obtain⟨b1,b2⟩:=hb;subst b2;obtain⟨k,iv,e1,e2,e3,e4⟩:=qb8 hi hn';obtain⟨ad,cap,c,base,arr,et,fr,hv,hμ,hcb,hsp,hcap,hoff,hw,hsz⟩:=hx.inv_ref;refine .pure hs (v':=.pointer (some (ad.add (n*z')))) ?_ (.c ?_)
     ·simp only[execOp,hv,e1];refine run_v ?_;have hcond:0<=iv/\iv<(len:Int):=by omega
      simp[Instr.indexAt,asIntOf,run_underlying hu,qbo h2,hcond.1,hcond.2,e3]
     ·rw[qih hsp,hcb];refine .ptr _ _ _ c base z' _ hμ ?_;have ho:=hoff.resolve_left (by omega);rw[ho,Nat.add_mul];omega
    ·cases h
   ·cases h
  ·rename_i m e hu;obtain⟨z,h2,hop⟩:=qaa hop;obtain⟨x',h3,hop⟩:=qaa hop;obtain⟨i',h4,rfl⟩:=qac hop;have hx:=qaj hs.tab h3 hE;have hi:=qaj hs.tab h4 hE;simp only[stp]at h;split at h
   ·rename_i b j off n hg hn';rw[hg]at hx;split at h
    ·rename_i hb;injection h with h;injection h with h7 h8;subst h7;subst h8
     obtain⟨k,iv,e1,e2,e3,e4⟩:=qb8 hi hn';obtain⟨c,base,zb,hμ,hv⟩:=hx.inv_ptr;refine .pure hs (v':=.pointer (some ⟨c,base+(j*zb+off)+n*z,none⟩)) ?_ (.c (.ptr _ _ _ c base zb _ hμ (by omega)));simp only[execOp,hv,e1];refine run_v ?_;have hcond:0<=iv/\iv<(m:Int):=by omega
     simp[Instr.indexAt,asIntOf,run_underlying hu,qbo h2,hcond.1,hcond.2,e3,Instr.sureAddr,Addr.add_lit]
    ·cases h
   ·rename_i cs n hg hn';rw[hg]at hx;split at h
    ·rename_i hb;injection h with h;injection h with h7 h8;subst h7;subst h8
     obtain⟨k,iv,e1,e2,e3,e4⟩:=qb8 hi hn';obtain⟨ad,hv,hp⟩:=hx.inv_eptr;refine .pure hs ?_ (.c (.p (hp.eptr_drop (n*z))));simp only[execOp,hv,e1];refine run_v ?_;have hcond:0<=iv/\iv<(m:Int):=by omega
     simp[Instr.indexAt,asIntOf,run_underlying hu,qbo h2,hcond.1,hcond.2,e3,Instr.sureAddr]
    ·cases h
   ·cases h
  ·cases hop
 case index t x ix=>
  simp only[cOp]at hop;split at hop
  ·rename_i m e hu;obtain⟨ag,h1,hop⟩:=qaa hop;obtain⟨z,h2,hop⟩:=qaa hop;obtain⟨x',h3,hop⟩:=qaa hop;obtain⟨i',h4,rfl⟩:=qac hop;have hx:=qaj hs.tab h3 hE;have hi:=qaj hs.tab h4 hE;simp only[stp]at h;split at h
   ·rename_i cs n hg hn';rw[hg]at hx;split at h
    ·rename_i hb;obtain⟨v1,h5,h6⟩:=qac h;injection h6 with h6 h7;subst h6;subst h7
     obtain⟨k,iv,e1,e2,e3,e4⟩:=qb8 hi hn';obtain⟨arr,hv,hsz,hr⟩:=hx.inv_agg;obtain⟨v',h8,h9⟩:=q3c (P:=T.P) h1 h2 hsz hr h5;refine .pure hs ?_ h9;simp only[execOp,hv,e1];refine run_v ?_;have hcond:0<=iv/\iv<(m:Int):=by omega
     simp[Instr.index,asIntOf,run_underlying hu,qbo h2,hcond.1,hcond.2,e3,h8]
    ·cases h
   ·cases h
  ·rename_i hu;obtain⟨x',h3,hop⟩:=qaa hop;obtain⟨i',h4,rfl⟩:=qac hop;have hx:=qaj hs.tab h3 hE;have hi:=qaj hs.tab h4 hE;simp only[stp]at h;split at h
   ·rename_i s n hg hn';rw[hg]at hx;split at h
    ·rename_i b hb;injection h with h;injection h with h6 h7;subst h6;subst h7
     obtain⟨k,iv,e1,e2,e3,e4⟩:=qb8 hi hn';have hv:=hx.inv_str;refine .pure hs ?_ (.c (.p (.int .u8 b.toNat)));simp only[execOp,hv,e1];refine run_v ?_;have hcond:0<=iv:=by omega
     simp[Instr.index,asIntOf,run_underlying hu,hcond,e3,hb]
    ·cases h
   ·cases h
  ·cases hop
 case extract x i=>
  obtain⟨x',h3,rfl⟩:=qac hop;have hx:=qaj hs.tab h3 hE;simp only[stp]at h;split at h
  ·rename_i vs hg;rw[hg]at hx;obtain⟨v1,h5,h6⟩:=qac h;injection h6 with h6 h7;subst h6;subst h7
   obtain⟨arr,hv,hsz,hr⟩:=hx.inv_tup;have hlt:i<arr.size:=by rw[hsz];exact(List.getElem?_eq_some_iff.1 h5).1
   have he:arr[i]?=some arr[i]:=by simp[hlt]
   refine .pure hs (v':=arr[i]) ?_ (hr i _ v1 he h5);simp only[execOp,hv];refine run_v ?_;simp[Instr.extract,he]
  ·cases h
 case call c=>
  obtain⟨callee,args,argTypes⟩:=c;cases callee
  case value f=>
   simp only[cOp]at hop;obtain⟨f',h1,hop⟩:=qaa hop;obtain⟨q,h2,rfl⟩:=qac hop;simp[stp]at h
  case invoke r m=>cases hop
  case builtin bi=>
   cases bi<;>simp only[cOp]at hop<;>try(cases hop;done)
   case len=>
    split at hop
    ·rename_i x t ha ht;have hargs:args=#[x]:=by cases args;simp at ha;simp[ha]
     subst hargs;split at hop
     ·rename_i e hu;obtain⟨x',h3,rfl⟩:=qac hop;have hx:=qaj hs.tab h3 hE;simp only[stp]at h;have main:∀{ad:Option Addr} {len cap:Nat},a.eval x=.slice ad len cap->(execOp a.eval ⟨dst,.call ⟨.builtin .len,#[x],argTypes⟩,ty,pos,after,guard⟩).run T.P w=.ok (.value (.int .i64 len)) w:=by
       intro ad len cap hv;simp[execOp,resolve,invoke,builtin,Builtin.len_,ht,hv,run_underlying hu,goInt]
      split at h
      ·rename_i l hg;rw[hg]at hx;injection h with h;injection h with h7 h8;subst h7;subst h8
       obtain⟨ad,len,cap,hv,hlen,hcap,hp⟩:=hx.inv_sl;subst hlen;exact .pure hs (main hv) (.c (.p (.int _ _)))
      ·rename_i hg;rw[hg]at hx;injection h with h;injection h with h7 h8;subst h7;subst h8
       exact .pure hs (main hx.inv_nil) (.c (.p (.int _ _)))
      ·rename_i hg;rw[hg]at hx;injection h with h;injection h with h7 h8;subst h7;subst h8
       obtain⟨ad,cap,hv⟩:=hx.inv_emp;exact .pure hs (main hv) (.c (.p (.int _ _)))
      ·rename_i b z off len hg;rw[hg]at hx;injection h with h;injection h with h7 h8;subst h7;subst h8
       obtain⟨ad,cap,c,base,arr,et,fr,hv,_⟩:=hx.inv_ref;exact .pure hs (main hv) (.c (.p (.int _ _)))
      ·cases h
     ·rename_i n e hu;obtain⟨x',h3,rfl⟩:=qac hop;simp only[stp]at h;injection h with h;injection h with h7 h8;subst h7;subst h8
      refine .pure hs (v':=.int .i64 n) ?_ (.c (.p (.int _ _)));simp[execOp,resolve,invoke,builtin,Builtin.len_,ht,run_underlying hu,goInt]
     ·cases hop
    ·cases hop
   case cap=>
    split at hop
    ·rename_i x t ha ht;have hargs:args=#[x]:=by cases args;simp at ha;simp[ha]
     subst hargs;split at hop
     ·rename_i e hu;obtain⟨x',h3,rfl⟩:=qac hop;have hx:=qaj hs.tab h3 hE;simp only[stp]at h;split at h
      ·rename_i hg;rw[hg]at hx;injection h with h;injection h with h7 h8;subst h7;subst h8
       refine .pure hs (v':=.int .i64 0) ?_ (.c (.p (.int _ _)));simp[execOp,resolve,invoke,builtin,Builtin.cap_,ht,hx.inv_nil,run_underlying hu,goInt]
      ·cases h
     ·cases hop
    ·cases hop
   case append=>
    split at hop
    ·rename_i x y t u ha ht;have hargs:args=#[x,y]:=by cases args;simp at ha;simp[ha]
     have htys:argTypes=#[t,u]:=by cases argTypes;simp at ht;simp[ht]
     subst hargs;subst htys;split at hop
     ·rename_i hint;have⟨ik,hu⟩:∃ik,T.P.underlying u=some (.int ik):=by
       unfold isInt at hint;split at hint
       ·rename_i ik hu;exact⟨ik,hu⟩
       ·cases hint
      obtain⟨e,h1,hop⟩:=qaa hop;obtain⟨z,h3,hop⟩:=qaa hop;obtain⟨i,h4,hop⟩:=qaa hop;obtain⟨zv,h5,hop⟩:=qaa hop;obtain⟨x',h6,hop⟩:=qaa hop;obtain⟨y',h7,hop⟩:=qaa hop;split at hop
      ·rename_i hcond;injection hop with hop;subst hop
       obtain⟨c1,c2,c3⟩:=hcond;obtain⟨i1,z',g1,g2,g3⟩:=qd6 h5;obtain⟨i2,g4,g5⟩:=qk5 h3;rw[h4]at g1;injection g1 with g1;subst g1
       rw[h4]at g4;injection g4 with g4;subst g4
       subst g5;have hz:=qft (gid:=T.gid) (w:=w) (M:=M) (μ:=μ) g3;have hx:=qaj hs.tab h6 hE;simp only[stp]at h;split at h
       ·rename_i m hg hm;rw[hg]at hx;obtain⟨kl,il,e1,e2,e3,e4⟩:=qb8 (qaj hs.tab h7 hE) hm;split at h
        ·rename_i hb;obtain⟨b1,b2,b3,b4,b5⟩:=hb;injection h with h;injection h with h9 h10;subst h9;subst h10
         obtain⟨v',w',M',μ',k1,k2,k3⟩:=qq9 (P:=T.P) hn hs t u ty e ik kl i z' (qas h1) hu h4 g2 hz.1 hz.2.2 b4 b5 c1 b1 b2 b3;refine .of (v':=v') (w':=w') ?_ k2 k3;rw[<-hx.inv_nil,<-e4,<-e1]at k1;simp[execOp,resolve,invoke,builtin,k1]
        ·cases h
       ·cases h
      ·cases hop
     obtain⟨e,h1,hop⟩:=qaa hop;obtain⟨e',h2,hop⟩:=qaa hop;obtain⟨z,h3,hop⟩:=qaa hop;obtain⟨i,h4,hop⟩:=qaa hop;obtain⟨zv,h5,hop⟩:=qaa hop;obtain⟨x',h6,hop⟩:=qaa hop;obtain⟨y',h7,hop⟩:=qaa hop;split at hop
     ·rename_i hcond;injection hop with hop;subst hop
      obtain⟨c1,c2,c3⟩:=hcond;obtain⟨i1,z',g1,g2,g3⟩:=qd6 h5;obtain⟨i2,g4,g5⟩:=qk5 h3;rw[h4]at g1;injection g1 with g1;subst g1
      rw[h4]at g4;injection g4 with g4;subst g4
      subst g5;have hz:=qft (gid:=T.gid) (w:=w) (M:=M) (μ:=μ) g3;have hzs:z'.cells.size=i.size:=by rw[(hz.1.cells hz.2.2).1,c2]
      have hx:=qaj hs.tab h6 hE;have hy:=qaj hs.tab h7 hE;have lim:∀{m:Nat},qaz m i.bytes=true->m*i.bytes<=140737488355328/\m<=9223372036854775807:=by
       intro m hm;simp only[qaz,decide_eq_true_eq]at hm;have:m*1<=m*i.bytes:=Nat.mul_le_mul_left _ c3;exact⟨hm,by omega⟩
      have exec:∀{v':Value} {w':World},(Builtin.append_ #[t,u] ty #[a.eval x,a.eval y]).run T.P w=.ok v' w' ->
       (execOp a.eval ⟨dst,.call ⟨.builtin .append,#[x,y],#[t,u]⟩,ty,pos,after,guard⟩).run T.P w=.ok (.value v') w':=by
       intro v' w' hr;simp[execOp,resolve,invoke,builtin,hr]
      simp only[stp]at h;obtain⟨ys,h8,h⟩:=qaa h;split at h
      ·rename_i hhead;obtain⟨ya,ycap,hyv,hsh⟩:=qs2 hs hy h8 hhead;split at h
       ·rename_i hg;rw[hg]at hx;split at h
        ·rename_i hys;injection h with h;injection h with h9 h10;subst h9;subst h10
         subst hys;refine .pure hs (exec (v':=.slice none 0 0) ?_) (.c (.p .nil));rw[hx.inv_nil,hyv];cases ya<;>simp[Builtin.append_,run_underlying (qas h1),run_underlying (qas h2),sizeOf,typeInfo,h4,Builtin.lenOf,Builtin.firstCells,loadCells,loadCellsFrom]
        ·rename_i hys;split at h
         ·rename_i hlim;injection h with h;injection h with h9 h10;subst h9;subst h10
          obtain⟨l1,l2⟩:=lim hlim;obtain⟨v',w',M',μ',k1,k2,k3⟩:=quj (P:=T.P) hn hs t u ty e e' i z' (qas h1) (qas h2) h4 g2 hzs c1 hyv hsh hys l1 l2;rw[<-hx.inv_nil]at k1;exact .of (exec k1) k2 k3
         ·cases h
       ·rename_i b z1 off len hg;rw[hg]at hx;split at h
        ·rename_i k hk;split at h
         ·rename_i hb;obtain⟨b1,b2,b3,b4,b5,b6⟩:=hb;subst b4;obtain⟨l1,l2⟩:=lim b6;obtain⟨v',w',M',μ',k1,k2⟩:=qui (P:=T.P) hn hs t u ty e e' i z' (qas h1) (qas h2) h4 g2 hzs c1 hx hk b1 b2 b5 hyv hsh l1 l2;split at h
          ·rename_i hys;rw[if_pos hys]at k2;injection h with h;injection h with h9 h10;subst h9;subst h10
           exact .of (exec k1) k2.1 k2.2
          ·rename_i hys;rw[if_neg hys]at k2;injection h with h;injection h with h9 h10;subst h9;subst h10
           exact .of (exec k1) k2.1 k2.2
         ·cases h
        ·cases h
       ·cases h
      ·cases h
     ·cases hop
    ·cases hop
   case copy=>
    split at hop
    ·rename_i x y t u ha ht;have hargs:args=#[x,y]:=by cases args;simp at ha;simp[ha]
     have htys:argTypes=#[t,u]:=by cases argTypes;simp at ht;simp[ht]
     subst hargs;subst htys;obtain⟨e,h1,hop⟩:=qaa hop;obtain⟨z,h3,hop⟩:=qaa hop;obtain⟨x',h6,hop⟩:=qaa hop;obtain⟨y',h7,hop⟩:=qaa hop;split at hop
     ·rename_i c1;injection hop with hop;subst hop
      obtain⟨i2,g4,g5⟩:=qk5 h3;subst g5;have hx:=qaj hs.tab h6 hE;have hy:=qaj hs.tab h7 hE;simp only[stp]at h;split at h
      ·rename_i b z1 off len hg;rw[hg]at hx;obtain⟨ys,h8,hh⟩:=qaa h;clear h;split at hh
       ·rename_i k hk;split at hh
        ·rename_i hb;obtain⟨b1,b2,b3,b4,b5,b6⟩:=hb;subst b4;injection hh with hh;injection hh with h9 h10;subst h9;subst h10
         obtain⟨ya,ycap,hyv,hsh⟩:=qs2 hs hy h8 b5;obtain⟨w',k1,k2⟩:=qadi (P:=T.P) (n0:=n0) hs t u ty e e i2 (qas h1) g4 c1 hx hk b1 b2 b6 hyv hsh;refine .of (v':=.int .i64 (Nat.min ys.length len:Nat)) (w':=w') ?_ k2 (.c (.p (.int _ _)));simp[execOp,resolve,invoke,builtin,k1]
        ·cases hh
       ·cases hh
      ·cases h
     ·cases hop
    ·cases hop
   case min=>
    split at hop
    ·rename_i x y ha;have hargs:args=#[x,y]:=by cases args;simp at ha;simp[ha]
     subst hargs;obtain⟨x',h1,hop⟩:=qaa hop;obtain⟨y',h2,rfl⟩:=qac hop;have hx:=qaj hs.tab h1 hE;have hy:=qaj hs.tab h2 hE;simp only[stp]at h;split at h
     ·rename_i k p k' q hg1 hg2;rw[hg1]at hx;rw[hg2]at hy;split at h
      ·injection h with h;injection h with h9 h10;subst h9;subst h10
       refine .pure hs (v':=.int k (if q<p then q else p)) ?_ (.c (.p (.int _ _)));simp[execOp,resolve,invoke,builtin,Builtin.min_,Builtin.min2,hx.inv_int,hy.inv_int]
      ·cases h
     ·cases h
    ·cases hop
   case max=>
    split at hop
    ·rename_i x y ha;have hargs:args=#[x,y]:=by cases args;simp at ha;simp[ha]
     subst hargs;obtain⟨x',h1,hop⟩:=qaa hop;obtain⟨y',h2,rfl⟩:=qac hop;have hx:=qaj hs.tab h1 hE;have hy:=qaj hs.tab h2 hE;simp only[stp]at h;split at h
     ·rename_i k p k' q hg1 hg2;rw[hg1]at hx;rw[hg2]at hy;split at h
      ·injection h with h;injection h with h9 h10;subst h9;subst h10
       refine .pure hs (v':=.int k (if p<q then q else p)) ?_ (.c (.p (.int _ _)));simp[execOp,resolve,invoke,builtin,Builtin.max_,Builtin.max2,hx.inv_int,hy.inv_int]
      ·cases h
     ·cases h
    ·rename_i x y z ha;have hargs:args=#[x,y,z]:=by cases args;simp at ha;simp[ha]
     subst hargs;obtain⟨x',h1,hop⟩:=qaa hop;obtain⟨y',h2,hop⟩:=qaa hop;obtain⟨z',h3,rfl⟩:=qac hop;have hx:=qaj hs.tab h1 hE;have hy:=qaj hs.tab h2 hE;have hz:=qaj hs.tab h3 hE;simp only[stp]at h;split at h
     ·rename_i k p k' q k'' r hg1 hg2 hg3;rw[hg1]at hx;rw[hg2]at hy;rw[hg3]at hz;split at h
      ·injection h with h;injection h with h9 h10;subst h9;subst h10
       refine .pure hs (v':=.int k (if(if p<q then q else p)<r then r else if p<q then q else p)) ?_ (.c (.p (.int _ _)));simp[execOp,resolve,invoke,builtin,Builtin.max_,Builtin.max2,hx.inv_int,hy.inv_int,hz.inv_int]
      ·cases h
     ·cases h
    ·cases hop
 all_goals(cases hop)
end Go.Abs
namespace Go.Abs
variable {T : Tab}
theorem qap {x:Operand}{c:X}(h:cX T x=some c){t:Nat}(hx:x=.tmp t):t ∈ c.reads:=by
 subst hx;simp only[cX]at h;injection h with h
 subst h;simp[X.reads]
theorem qtj : ∀(xs:List Operand) {cs:List X} (_:cXs T xs=some cs) {t:Nat},Operand.tmp t ∈ xs->t ∈ cs.flatMap X.reads
 | [],cs,h,t,ht=>by cases ht
 |x :: xs,cs,h,t,ht=>by
  simp only[cXs,Option.bind_eq_some_iff]at h;obtain⟨c,h1,cs',h2,h3⟩:=h;injection h3 with h3
  subst h3;rw[List.flatMap_cons,List.mem_append];rcases List.mem_cons.1 ht with h4|h4
  ·exact .inl (qap h1 h4.symm)
  ·exact .inr (qtj xs h2 h4)
theorem ql3 (place:Nat->Option (Nat × Nat)):∀(ps:List (Nat × Operand)) {cs:List (Nat × Nat × X)} (_:qqn T place ps=some cs) {t:Nat},Operand.tmp t ∈ ps.map (·.2)->t ∈ cs.flatMap fun p=>p.2.2.reads
 | [],cs,h,t,ht=>by cases ht
 | (j,x) :: ps,cs,h,t,ht=>by
  simp only[qqn,Option.bind_eq_some_iff]at h;obtain⟨⟨off,size⟩,h1,c,h2,cs',h3,h4⟩:=h;injection h4 with h4
  subst h4;rw[List.flatMap_cons,List.mem_append];rcases List.mem_cons.1 ht with h5|h5
  ·exact .inl (qap h2 h5.symm)
  ·exact .inr (ql3 place ps h3 h5)
theorem qqq : ∀(ps:List (Nat × Operand)) {cs:List (Nat × X)} (_:qtn T ps=some cs) {t:Nat},Operand.tmp t ∈ ps.map (·.2)->t ∈ cs.flatMap fun p=>p.2.reads
 | [],cs,h,t,ht=>by cases ht
 | (j,x) :: ps,cs,h,t,ht=>by
  simp only[qtn,Option.bind_eq_some_iff]at h;obtain⟨c,h2,cs',h3,h4⟩:=h;injection h4 with h4
  subst h4;rw[List.flatMap_cons,List.mem_append];rcases List.mem_cons.1 ht with h5|h5
  ·exact .inl (qap h2 h5.symm)
  ·exact .inr (qqq ps h3 h5)
theorem qtm {x:Option Operand}{c:Option X}(h:cOX T x=some c){t:Nat}(ht:x=some (.tmp t)):t ∈ OX.reads c:=by
 subst ht;simp only[cOX]at h;obtain⟨q,h1,rfl⟩:=qac h;exact qap h1 rfl
theorem qaah {o:Op}{op:AOp}(h:cOp T o=some op){t:Nat}(ht:Operand.tmp t ∈ o.operands):t ∈ op.reads:=by
 cases o
 case move x=>
  obtain⟨x',h1,rfl⟩:=qac h;simp only[Op.operands,List.mem_toArray,List.mem_singleton]at ht;exact qap h1 ht.symm
 case assign x=>
  obtain⟨x',h1,rfl⟩:=qac h;simp only[Op.operands,List.mem_toArray,List.mem_singleton]at ht;exact qap h1 ht.symm
 case pick c x y=>
  obtain⟨c',h1,h⟩:=qaa h;obtain⟨x',h2,h⟩:=qaa h;obtain⟨y',h3,rfl⟩:=qac h;simp only[Op.operands,List.mem_toArray,List.mem_cons,List.not_mem_nil,or_false]at ht;simp only[AOp.reads,List.mem_append];rcases ht with ht|ht|ht
  ·exact .inl (.inl (qap h1 ht.symm))
  ·exact .inl (.inr (qap h2 ht.symm))
  ·exact .inr (qap h3 ht.symm)
 case alloc=>simp[Op.operands]at ht
 case box t' x=>
  obtain⟨z,h1,h⟩:=qaa h;obtain⟨x',h2,rfl⟩:=qac h;simp only[Op.operands,List.mem_toArray,List.mem_singleton]at ht;exact qap h2 ht.symm
 case build t' ps=>
  simp only[Op.operands,List.mem_toArray]at ht;simp only[cOp]at h;split at h
  ·split at h
   ·obtain⟨zv,h1,h⟩:=qaa h;obtain⟨ps',h2,rfl⟩:=qac h;exact ql3 _ _ h2 ht
   ·cases h
  ·obtain⟨zv,h1,h⟩:=qaa h;obtain⟨s,h1',h⟩:=qaa h;obtain⟨ps',h2,rfl⟩:=qac h;exact ql3 _ _ h2 ht
  ·cases h
 case buildSlice t' len ps=>
  simp only[Op.operands,List.mem_toArray]at ht;obtain⟨e,h1,h⟩:=qaa h;obtain⟨zv,h2,h⟩:=qaa h;obtain⟨z,h3,h⟩:=qaa h;obtain⟨ps',h4,h⟩:=qaa h;split at h
  ·injection h with h;subst h;exact qqq _ h4 ht
  ·cases h
 case load t' x=>
  obtain⟨ag,h1,h⟩:=qaa h;obtain⟨z,h2,h⟩:=qaa h;obtain⟨x',h3,rfl⟩:=qac h;simp only[Op.operands,List.mem_toArray,List.mem_singleton]at ht;exact qap h3 ht.symm
 case store t' x y=>
  obtain⟨z,h1,h⟩:=qaa h;obtain⟨x',h2,h⟩:=qaa h;obtain⟨y',h3,rfl⟩:=qac h;simp only[Op.operands,List.mem_toArray,List.mem_cons,List.not_mem_nil,or_false]at ht;simp only[AOp.reads,List.mem_append];rcases ht with ht|ht
  ·exact .inl (qap h2 ht.symm)
  ·exact .inr (qap h3 ht.symm)
 case binOp bop t' x y u=>
  obtain⟨bk,h1,h⟩:=qaa h;obtain⟨x',h2,h⟩:=qaa h;obtain⟨y',h3,rfl⟩:=qac h;simp only[Op.operands,List.mem_toArray,List.mem_cons,List.not_mem_nil,or_false]at ht;simp only[AOp.reads,List.mem_append];rcases ht with ht|ht
  ·exact .inl (qap h2 ht.symm)
  ·exact .inr (qap h3 ht.symm)
 case unOp uop t' x=>
  obtain⟨x',h2,rfl⟩:=qac h;simp only[Op.operands,List.mem_toArray,List.mem_singleton]at ht;exact qap h2 ht.symm
 case convert src dst x=>
  simp only[cOp]at h;split at h
  ·obtain⟨x',h2,rfl⟩:=qac h;simp only[Op.operands,List.mem_toArray,List.mem_singleton]at ht;exact qap h2 ht.symm
  ·cases h
 case makeFunc fn first caps=>
  cases fn<;>simp only[cOp]at h<;>try(cases h;done)
  split at h
  ·rename_i hf0;obtain⟨g,h1,h⟩:=qaa h;obtain⟨cs,h2,rfl⟩:=qac h;have hfe:first=#[]:=Array.eq_empty_of_size_eq_zero hf0
   subst hfe;simp only[Op.operands,Array.empty_append]at ht;exact qtj _ h2 (by simpa using ht)
  ·cases h
 case makeSlice t' l c=>
  obtain⟨e,h1,h⟩:=qaa h;obtain⟨zv,h2,h⟩:=qaa h;obtain⟨z,h3,h⟩:=qaa h;obtain⟨ti,h4,h⟩:=qaa h;obtain⟨l',h5,h⟩:=qaa h;obtain⟨c',h6,h⟩:=qaa h;split at h
  ·injection h with h;subst h
   simp only[Op.operands,List.mem_toArray,List.mem_cons,List.not_mem_nil,or_false]at ht;simp only[AOp.reads,List.mem_append];rcases ht with ht|ht
   ·exact .inl (qap h5 ht.symm)
   ·exact .inr (qap h6 ht.symm)
  ·cases h
 case slice t' x lo hi mx=>
  obtain⟨e,h1,h⟩:=qaa h;obtain⟨z,h2,h⟩:=qaa h;obtain⟨x',h3,h⟩:=qaa h;obtain⟨lo',h4,h⟩:=qaa h;obtain⟨hi',h5,h⟩:=qaa h;obtain⟨mx',h6,h⟩:=qaa h;split at h
  ·cases h
  ·injection h with h;subst h
   simp only[Op.operands,Array.mem_append,List.mem_toArray,List.mem_singleton]at ht;simp only[AOp.reads,List.mem_append];have mem:∀{q:Option Operand},Operand.tmp t ∈ q.toList.toArray->q=some (.tmp t):=by
    intro q hq;cases q with
    |none=>simp at hq
    |some q=>simp at hq;rw[hq]
   rcases ht with ((ht|ht)|ht)|ht
   ·exact .inl (.inl (.inl (qap h3 ht.symm)))
   ·exact .inl (.inl (.inr (qtm h4 (by cases lo<;>simp_all))))
   ·exact .inl (.inr (qtm h5 (by cases hi<;>simp_all)))
   ·exact .inr (qtm h6 (by cases mx<;>simp_all))
 case fieldAddr s x f=>
  simp only[cOp]at h;split at h
  ·obtain⟨fd,h1,h⟩:=qaa h;obtain⟨z,h2,h⟩:=qaa h;obtain⟨x',h3,h⟩:=qaa h;split at h
   ·cases h
   ·injection h with h;subst h
    simp only[Op.operands,List.mem_toArray,List.mem_singleton]at ht;exact qap h3 ht.symm
  ·cases h
 case field t' x f=>
  simp only[cOp]at h;split at h
  ·obtain⟨fd,h1,h⟩:=qaa h;obtain⟨ag,h2,h⟩:=qaa h;obtain⟨z,h3,h⟩:=qaa h;obtain⟨x',h4,rfl⟩:=qac h;simp only[Op.operands,List.mem_toArray,List.mem_singleton]at ht;exact qap h4 ht.symm
  ·cases h
 case indexAddr t' x i=>
  simp only[Op.operands,List.mem_toArray,List.mem_cons,List.not_mem_nil,or_false]at ht;simp only[cOp]at h;split at h
  ·obtain⟨z,h2,h⟩:=qaa h;obtain⟨x',h3,h⟩:=qaa h;obtain⟨i',h4,rfl⟩:=qac h;simp only[AOp.reads,List.mem_append];rcases ht with ht|ht
   ·exact .inl (qap h3 ht.symm)
   ·exact .inr (qap h4 ht.symm)
  ·obtain⟨z,h2,h⟩:=qaa h;obtain⟨x',h3,h⟩:=qaa h;obtain⟨i',h4,rfl⟩:=qac h;simp only[AOp.reads,List.mem_append];rcases ht with ht|ht
   ·exact .inl (qap h3 ht.symm)
   ·exact .inr (qap h4 ht.symm)
  ·cases h
 case index t' x i=>
  simp only[Op.operands,List.mem_toArray,List.mem_cons,List.not_mem_nil,or_false]at ht;simp only[cOp]at h;split at h
  ·obtain⟨ag,h1,h⟩:=qaa h;obtain⟨z,h2,h⟩:=qaa h;obtain⟨x',h3,h⟩:=qaa h;obtain⟨i',h4,rfl⟩:=qac h;simp only[AOp.reads,List.mem_append];rcases ht with ht|ht
   ·exact .inl (qap h3 ht.symm)
   ·exact .inr (qap h4 ht.symm)
  ·obtain⟨x',h3,h⟩:=qaa h;obtain⟨i',h4,rfl⟩:=qac h;simp only[AOp.reads,List.mem_append];rcases ht with ht|ht
   ·exact .inl (qap h3 ht.symm)
   ·exact .inr (qap h4 ht.symm)
  ·cases h
 case extract x i=>
  obtain⟨x',h3,rfl⟩:=qac h;simp only[Op.operands,List.mem_toArray,List.mem_singleton]at ht;exact qap h3 ht.symm
 case call c=>
  obtain⟨callee,args,argTypes⟩:=c;have two:∀{x y:Operand} {x' y':X},args.toList=[x,y]->cX T x=some x'->cX T y=some y'->Operand.tmp t ∈ (#[]:Array Operand)++args->t ∈ x'.reads++y'.reads:=by
   intro x y x' y' ha h1 h2 hm;simp only[Array.empty_append]at hm;rw[<-Array.mem_toList_iff,ha]at hm;rw[List.mem_append];simp only[List.mem_cons,List.not_mem_nil,or_false]at hm;rcases hm with hm|hm
   ·exact .inl (qap h1 hm.symm)
   ·exact .inr (qap h2 hm.symm)
  cases callee
  case value f=>
   simp only[cOp]at h;obtain⟨f',h1,h⟩:=qaa h;obtain⟨q,h2,rfl⟩:=qac h;simp only[Op.operands,Call.operands,Array.mem_append,List.mem_toArray,List.mem_singleton]at ht;simp only[AOp.reads,List.mem_append];rcases ht with ht|ht
   ·exact .inl (qap h1 ht.symm)
   ·exact .inr (qtj _ h2 (by simpa using ht))
  case invoke r m=>cases h
  case builtin bi=>
   simp only[Op.operands,Call.operands]at ht;cases bi<;>simp only[cOp]at h<;>try(cases h;done)
   case cap=>
    split at h
    ·rename_i x t' ha ht';split at h
     ·obtain⟨x',h3,rfl⟩:=qac h;simp only[Array.empty_append]at ht;rw[<-Array.mem_toList_iff,ha,List.mem_singleton]at ht;exact qap h3 ht.symm
     ·cases h
    ·cases h
   case len=>
    split at h
    ·rename_i x t' ha ht';have one:∀{x':X},cX T x=some x'->t ∈ x'.reads:=by
      intro x' h1;simp only[Array.empty_append]at ht;rw[<-Array.mem_toList_iff,ha,List.mem_singleton]at ht;exact qap h1 ht.symm
     split at h
     ·obtain⟨x',h3,rfl⟩:=qac h;exact one h3
     ·obtain⟨x',h3,rfl⟩:=qac h;exact one h3
     ·cases h
    ·cases h
   case append=>
    split at h
    ·rename_i x y t' u ha ht';split at h
     ·obtain⟨e,h1,h⟩:=qaa h;obtain⟨z,h3,h⟩:=qaa h;obtain⟨i,h4,h⟩:=qaa h;obtain⟨zv,h5,h⟩:=qaa h;obtain⟨x',h6,h⟩:=qaa h;obtain⟨y',h7,h⟩:=qaa h;split at h
      ·injection h with h;subst h;exact two ha h6 h7 ht
      ·cases h
     obtain⟨e,h1,h⟩:=qaa h;obtain⟨e',h2,h⟩:=qaa h;obtain⟨z,h3,h⟩:=qaa h;obtain⟨i,h4,h⟩:=qaa h;obtain⟨zv,h5,h⟩:=qaa h;obtain⟨x',h6,h⟩:=qaa h;obtain⟨y',h7,h⟩:=qaa h;split at h
     ·injection h with h;subst h;exact two ha h6 h7 ht
     ·cases h
    ·cases h
   case copy=>
    split at h
    ·rename_i x y t' u ha ht';obtain⟨e,h1,h⟩:=qaa h;obtain⟨z,h3,h⟩:=qaa h;obtain⟨x',h6,h⟩:=qaa h;obtain⟨y',h7,h⟩:=qaa h;split at h
     ·injection h with h;subst h;exact two ha h6 h7 ht
     ·cases h
    ·cases h
   case min=>
    split at h
    ·rename_i x y ha;obtain⟨x',h1,h⟩:=qaa h;obtain⟨y',h2,rfl⟩:=qac h;exact two ha h1 h2 ht
    ·cases h
   case max=>
    split at h
    ·rename_i x y ha;obtain⟨x',h1,h⟩:=qaa h;obtain⟨y',h2,rfl⟩:=qac h;exact two ha h1 h2 ht
    ·rename_i x y z ha;obtain⟨x',h1,h⟩:=qaa h;obtain⟨y',h2,h⟩:=qaa h;obtain⟨z',h3,rfl⟩:=qac h;have hargs:args=#[x,y,z]:=by cases args;simp at ha;simp[ha]
     subst hargs;simp only[Array.mem_append,List.mem_toArray]at ht;simp only[AOp.reads,List.mem_append];simp at ht;rcases ht with rfl|rfl|rfl
     ·exact .inl (.inl (qap h1 rfl))
     ·exact .inl (.inr (qap h2 rfl))
     ·exact .inr (qap h3 rfl)
    ·cases h
 all_goals(cases h)
theorem qa8 {E E':Env}{x:X}(h:∀t ∈ x.reads,E t=E' t):getX E x=getX E' x:=by
 cases x with
 |t i=>exact h i (by simp[X.reads])
 |c v=>rfl
 |f g=>rfl
theorem q1o {E E':Env}{xs:List X}(h:∀t ∈ xs.flatMap X.reads,E t=E' t):xs.map (getX E)=xs.map (getX E'):=by
 apply List.map_congr_left;intro x hx;exact qa8 fun t ht=>h t (List.mem_flatMap.2 ⟨x,hx,ht⟩)
theorem qk8 {E E':Env}{d:Nat}{x:Option X}(h:∀t ∈ OX.reads x,E t=E' t):qbi E d x=qbi E' d x:=by
 cases x with
 |none=>rfl
 |some x=>simp only[qbi,qa8 h]
theorem qx5 {n0:Nat}{op:AOp}{E E':Env}{H:Heap}(hn:∀z a x av,op≠.storeN z a x av)(h:∀t ∈ op.reads,E t=E' t):stp n0 op E H=stp n0 op E' H:=by
 cases op<;>simp only[AOp.reads,List.mem_append]at h<;>simp only[stp]
 case pick c x y=>rw[qa8 (x:=c) fun t ht=>h t (.inl (.inl ht)),qa8 (x:=x) fun t ht=>h t (.inl (.inr ht)),qa8 (x:=y) fun t ht=>h t (.inr ht)]
 case slice z x lo hi mx=>
  rw[qa8 (x:=x) fun t ht=>h t (.inl (.inl (.inl ht)))];have e1:∀d,qbi E d lo=qbi E' d lo:=fun d=>qk8 fun t ht=>h t (.inl (.inl (.inr ht)))
  have e2:∀d,qbi E d hi=qbi E' d hi:=fun d=>qk8 fun t ht=>h t (.inl (.inr ht))
  have e3:∀d,qbi E d mx=qbi E' d mx:=fun d=>qk8 fun t ht=>h t (.inr ht)
  simp only[e1,e2,e3]
 case build zero ps=>
  have:(ps.map fun p=>(p.1,p.2.1,getX E p.2.2))=ps.map fun p=>(p.1,p.2.1,getX E' p.2.2):=List.map_congr_left fun p hp=>by
   rw[qa8 fun t ht=>h t (List.mem_flatMap.2 ⟨p,hp,ht⟩)]
  rw[this]
 case bslice z len zero ps=>
  have:(ps.map fun p=>getX E p.2)=ps.map fun p=>getX E' p.2:=List.map_congr_left fun p hp=>by
   rw[qa8 fun t ht=>h t (List.mem_flatMap.2 ⟨p,hp,ht⟩)]
  rw[this]
 case plit z len zero ps=>
  have:(ps.map fun p=>getX E p.2)=ps.map fun p=>getX E' p.2:=List.map_congr_left fun p hp=>by
   rw[qa8 fun t ht=>h t (List.mem_flatMap.2 ⟨p,hp,ht⟩)]
  rw[this]
 case max3 x y z=>rw[qa8 (x:=x) fun t ht=>h t (.inl (.inl ht)),qa8 (x:=y) fun t ht=>h t (.inl (.inr ht)),qa8 (x:=z) fun t ht=>h t (.inr ht)]
 case mkfn g cs=>rw[q1o h]
 case sload ag z t=>rw[h t (by simp)]
 case storeN z x y av=>exact absurd rfl (hn z x y av)
 all_goals first
  |rfl
  | (rename_i x;rw[qa8 (x:=x) h];done)
  | (rename_i x y;rw[qa8 (x:=x) fun t ht=>h t (.inl ht),qa8 (x:=y) fun t ht=>h t (.inr ht)];done)
  | (rename_i x y;simp only[qa8 (x:=x) fun t ht=>h t (.inl ht),qa8 (x:=y) fun t ht=>h t (.inr ht)];done)
end Go.Abs
namespace Go.Abs
variable {T : Tab} {w : World} {M : Nat → Prop} {μ : Inj} {H : Heap}
def q43 (gid:Gid)(w:World)(M:Nat->Prop)(μ:Inj)(l:List Nat)(tmps:Array Value)(E:Env):Prop:=∀t ∈ l,R gid w M μ (tmps.getD t Go.undef) (E t)
def OpSem (T:Tab)(n0:Nat)(o:Oper)(reads:List Nat)(E:Env)(H:Heap)(v:V)(H1:Heap):Prop:=
 ∀(a:Act) (w:World) (M:Nat->Prop) (μ:Inj) (K:Act->World->Prop) (Q:Exit->Act->World->Prop),n0<=H.length->Sim T.gid w M μ H->q43 T.gid w M μ reads a.tmps E ->
  (∀v' w' M' μ',Step T.gid n0 w M μ H w' M' μ' H1->R T.gid w' M' μ' v' v->K (a.put o.dst v') w')->o.wp T.P a w K Q
def onlyT (l:List Nat)(tmps:Array Value):Array Value:=tmps.mapIdx fun t v=>if t ∈ l then v else Go.undef
def onlyE (l:List Nat)(E:Env):Env:=fun t=>if t ∈ l then E t else .undef
theorem qys (l:List Nat)(tmps:Array Value)(t:Nat):(onlyT l tmps).getD t Go.undef=if t ∈ l then tmps.getD t Go.undef else Go.undef:=by
 unfold onlyT;simp only[Array.getD_eq_getD_getElem?,Array.getElem?_mapIdx];cases tmps[t]? with
 |none=>simp
 |some v=>simp
theorem qv6 {l:List Nat}{tmps:Array Value}{E:Env}(h:q43 T.gid w M μ l tmps E):ERel T.gid w M μ (onlyT l tmps) (onlyE l E):=by
 intro t;rw[qys];unfold onlyE;split
 ·exact h t (by assumption)
 ·exact R.undef
theorem qrx {o:Oper}{op:AOp}{l:List Nat}(hop:cOp T o.op=some op)(hl:∀t ∈ op.reads,t ∈ l)(a:Act):execOp a.eval o=execOp (Act.eval { a with tmps:=onlyT l a.tmps }) o:=by
 refine execOp_congr o (fun cs b hs=>by rw[hs]at hop;cases hop) fun x hx=>?_
 cases x with
 |tmp t=>
  show a.tmps.getD t Go.undef=(onlyT l a.tmps).getD t Go.undef;rw[qys,if_pos (hl t (qaah hop hx))]
 |_=>rfl
inductive Soft : AOp->AOp->Prop
 |refl (op:AOp):Soft op op
 |load (ag:Bool) (z t:Nat):Soft (.sload ag z t) (.load ag z (.t t))
 |store (z:Nat) (a x:X) (av:List Nat):Soft (.storeN z a x av) (.store z a x)
 |lit {z len:Nat} {zero:V} {parts:List (Nat × X)} {els:List V} (h:litOf (.bslice z len zero parts)=some els):Soft (.mv (.c (.sl els))) (.bslice z len zero parts)
 |plit (z len:Nat) (zero:V) (parts:List (Nat × X)):Soft (.plit z len zero parts) (.bslice z len zero parts)
theorem q87 {H:Heap}{E:Env}:∀(ps:List (Nat × X)),(ps.all fun p=>qy1 p.2)=true->qce H (ps.map fun p=>getX E p.2)=some (ps.map fun p=>getX (fun _=>.undef) p.2,H)
 | [],_=>rfl
 | (i,x) :: ps,h=>by
  simp only[List.all_cons,Bool.and_eq_true]at h;have ih:=q87 (H:=H) (E:=E) ps h.2;obtain⟨k,n,rfl⟩:∃k n,x=.c (.int k n):=by
   have:=h.1;unfold qy1 at this;split at this
   ·exact⟨_,_,rfl⟩
   ·cases this
  simp only[List.map_cons,qce];rw[show qbv H (getX E (.c (.int k n)))=some (.int k n,H) from rfl];simp only[Option.bind_some];rw[ih];rfl
theorem qy2 : ∀(ps:List (Nat × X)),(ps.all fun p=>qy1 p.2)=true->(ps.flatMap fun p=>p.2.reads)=[]
 | [],_=>rfl
 | (i,x) :: ps,h=>by
  simp only[List.all_cons,Bool.and_eq_true]at h;obtain⟨k,n,rfl⟩:∃k n,x=.c (.int k n):=by
   have:=h.1;unfold qy1 at this;split at this
   ·exact⟨_,_,rfl⟩
   ·cases this
  rw[List.flatMap_cons,qy2 ps h.2];rfl
theorem q2v {α β γ:Type}(f:α->β)(g:α->γ):∀l:List α,(l.map f).zip (l.map g)=l.map fun p=>(f p,g p)
 | []=>rfl
 |a :: l=>by simp[q2v f g l]
theorem q81 {n0 z len:Nat}{zero:V}{parts:List (Nat × X)}{els:List V}(h:litOf (.bslice z len zero parts)=some els)(E:Env)(H:Heap) :
 (AOp.bslice z len zero parts).reads=[]/\∃el,0+len<=el.length/\els=(el.drop 0).take len/\stp n0 (.bslice z len zero parts) E H=some (.ref H.length z 0 len,H++[some ⟨z,el,true,true⟩]):=by
 simp only[litOf]at h;split at h
 ·rename_i hc;obtain⟨el,h1,h2⟩:=qaa h;split at h2
  ·rename_i hl;injection h2 with h2
   refine⟨qy2 parts hc.2,el,hl,h2.symm,?_⟩;simp only[stp];rw[if_pos hc.1,q87 parts hc.2];simp only[Option.bind_some];rw[q2v,h1];rfl
  ·cases h2
 ·cases h
theorem Soft.same {n0:Nat}{op op0:AOp}(h:Soft op op0)(hb:∀z len zero parts,op0=.bslice z len zero parts->op=op0){E:Env}{v:V}{H1:Heap}(e:stp n0 op E H=some (v,H1)):stp n0 op0 E H=some (v,H1):=by
 cases h with
 |refl=>exact e
 |load ag z t=>
  simp only[stp,getX]at e ⊢;split at e
  ·rename_i cs hg;exact e
  ·rename_i b i off hg;split at e
   ·rename_i k hk;split at e
    ·rename_i el he;obtain⟨u,h1,h2⟩:=qaa e;split at h2
     ·simp only[h1,Option.map_some];exact h2
     ·cases h2
    ·cases e
   ·cases e
  ·cases e
 |store z a x av=>
  simp only[stp]at e ⊢;split at e
  ·exact e
  ·cases e
 |lit hl=>exact absurd (hb _ _ _ _ rfl) (by simp)
 |plit=>exact absurd (hb _ _ _ _ rfl) (by simp)
theorem Soft.reads {op op0:AOp}(h:Soft op op0):∀t ∈ op0.reads,t ∈ op.reads:=by
 cases h with
 |refl=>exact fun t ht=>ht
 |load ag z t=>exact fun t ht=>ht
 |store z a x av=>exact fun t ht=>by simp only[AOp.reads,List.mem_append]at ht ⊢;exact ht
 |lit hl=>exact fun t ht=>by rw[(q81 (n0:=0) hl (fun _=>.undef) []).1]at ht;exact absurd ht (by simp)
 |plit=>exact fun t ht=>ht
theorem qqo {o:Op}(ag:Bool)(z t:Nat):¬cOp T o=some (.sload ag z t):=by
 intro h;cases o
 case call c=>
  obtain⟨callee,args,argTypes⟩:=c;cases callee
  case value f=>simp[cOp,Option.bind_eq_some_iff]at h
  case invoke=>simp[cOp]at h
  case builtin bi=>
   cases bi<;>simp only[cOp]at h<;>(repeat' split at h)<;>simp[Option.bind_eq_some_iff]at h
 all_goals simp only[cOp]at h
 all_goals(repeat' split at h)
 all_goals(try(simp[Option.bind_eq_some_iff]at h;done))
 all_goals(try(cases h;done))
theorem qxa {o:Op}(z:Nat)(a x:X)(av:List Nat):¬cOp T o=some (.storeN z a x av):=by
 intro h;cases o
 case call c=>
  obtain⟨callee,args,argTypes⟩:=c;cases callee
  case value f=>simp[cOp,Option.bind_eq_some_iff]at h
  case invoke=>simp[cOp]at h
  case builtin bi=>
   cases bi<;>simp only[cOp]at h<;>(repeat' split at h)<;>simp[Option.bind_eq_some_iff]at h
 all_goals simp only[cOp]at h
 all_goals(repeat' split at h)
 all_goals(try(simp[Option.bind_eq_some_iff]at h;done))
 all_goals(try(cases h;done))
theorem q8o {n0:Nat}{o:Oper}{z len:Nat}{zero:V}{parts:List (Nat × X)}{els:List V}(hop:cOp T o.op=some (.bslice z len zero parts))(hl:litOf (.bslice z len zero parts)=some els){E:Env}:OpSem T n0 o (AOp.mv (.c (.sl els))).reads E H (.sl els) H:=by
 intro a w M μ K Q hn hs hE hK;obtain⟨hr0,el,hle,rfl,h2⟩:=q81 (n0:=H.length) hl (onlyE (AOp.mv (.c (.sl els))).reads E) H;obtain⟨v',w',M',μ',hr,hst,hrel⟩:=qrk hop (Nat.le_refl _) hs (a:={ a with tmps:=onlyT (AOp.mv (.c (.sl ((el.drop 0).take len)))).reads a.tmps }) (qv6 hE) h2;have hf:frzV (H++[some ⟨z,el,true,true⟩]) (.ref H.length z 0 len)=some (.sl ((el.drop 0).take len),(H++[some (Blk.mk z el true true)]).set H.length (some (Blk.mk z el true false))):=by
  simp only[frzV,frzC,List.getElem?_append_right (Nat.le_refl H.length),Nat.sub_self,List.getElem?_cons_zero];rw[if_pos ⟨trivial,trivial,hle⟩];rfl
 obtain⟨M2,st2,r2,_⟩:=qmc (n0:=H.length) hst.sim hf hrel;obtain⟨μ3,st3⟩:=Step.take (hst.trans st2) rfl (hs.lowH (Nat.le_refl _));have e:(((H++[some (Blk.mk z el true true)]).set H.length (some (Blk.mk z el true false))).take H.length)=H:=by simp
 rw[e]at st3;have st4:Step T.gid n0 w M μ H w' M2 μ3 H:={ st3 with low:=fun n h=>st3.low n (Nat.le_trans h hn) }
 unfold Oper.wp;rw[qrx hop (fun t ht=>by rw[hr0]at ht;exact absurd ht (by simp)) a];rcases hr with hr|⟨hr,hv⟩
 ·rw[hr];exact hK v' w' M2 μ3 st4 (r2.pureAny rfl μ3)
 ·rw[hr];subst hv;exact hK _ w' M2 μ3 st4 (r2.pureAny rfl μ3)
theorem qw1 {c c':V}{H1:Heap}(h:frzC [] c=some (c',H1))(H:Heap):H1=[]/\frzC H c=some (c',H):=by
 cases c<;>simp only[frzC]at h ⊢<;>first
  | (cases h;done)
  | (injection h with h;injection h with h1 h2;exact⟨h2.symm,by rw[h1]⟩)
  | (simp at h)
theorem qzk : ∀{cs cs':List V} {H1:Heap},frzCs [] cs=some (cs',H1)->∀H:Heap,H1=[]/\frzCs H cs=some (cs',H)
 | [],cs',H1,h,H=>by simp only[frzCs]at h ⊢;injection h with h;injection h with h1 h2;exact⟨h2.symm,by rw[h1]⟩
 |c :: cs,cs',H1,h,H=>by
  simp only[frzCs]at h ⊢;obtain⟨⟨c1,Ha⟩,h1,h3⟩:=qaa h;obtain⟨ea,e1⟩:=qw1 h1 H;subst ea;obtain⟨⟨c2,Hb⟩,h2,h4⟩:=qaa h3;obtain⟨eb,e2⟩:=qzk h2 H;subst eb;injection h4 with h4;injection h4 with h4 h5
  refine⟨h5.symm,?_⟩;rw[e1];simp only[Option.bind_some];rw[e2];simp only[Option.bind_some];rw[h4]
theorem quv {v v':V}{H1:Heap}(h:qbv [] v=some (v',H1))(H:Heap):H1=[]/\qbv H v=some (v',H):=by
 unfold qbv at h ⊢;obtain⟨⟨u,Ha⟩,h1,h⟩:=qaa h;have key:Ha=[]/\frzV H v=some (u,H):=by
  cases v with
  |agg cs=>
   simp only[frzV]at h1 ⊢;obtain⟨⟨cs',Hb⟩,h2,h1⟩:=qaa h1;obtain⟨e,e2⟩:=qzk h2 H;injection h1 with h1;injection h1 with h1 h3
   exact⟨by rw[<-h3,e],by rw[e2,<-h1];rfl⟩
  |_=>simp only[frzV]at h1 ⊢;exact qw1 h1 H
 obtain⟨ea,e⟩:=key;rw[e];simp only[Option.bind_some]at h ⊢;split at h
 ·rename_i hp;injection h with h;injection h with h3 h4
  rw[if_pos hp,h3];exact⟨by rw[<-h4,ea],rfl⟩
 ·cases h
theorem qrt : ∀{vs vs':List V} {H1:Heap},qce [] vs=some (vs',H1)->∀H:Heap,H1=[]/\qce H vs=some (vs',H)
 | [],vs',H1,h,H=>by simp only[qce]at h ⊢;injection h with h;injection h with h1 h2;exact⟨h2.symm,by rw[h1]⟩
 |c :: cs,vs',H1,h,H=>by
  simp only[qce]at h ⊢;obtain⟨⟨c1,Ha⟩,h1,h3⟩:=qaa h;obtain⟨ea,e1⟩:=quv h1 H;subst ea;obtain⟨⟨c2,Hb⟩,h2,h4⟩:=qaa h3;obtain⟨eb,e2⟩:=qrt h2 H;subst eb;injection h4 with h4;injection h4 with h4 h5
  refine⟨h5.symm,?_⟩;rw[e1];simp only[Option.bind_some];rw[e2];simp only[Option.bind_some];rw[h4]
theorem qv5 {n0 z len:Nat}{zero:V}{parts:List (Nat × X)}{E:Env}{H H1:Heap}{v:V}(h:stp n0 (.plit z len zero parts) E H=some (v,H1)) :
 H1=H/\∃el,0+len<=el.length/\v=.sl ((el.drop 0).take len)/\∀Hc,stp n0 (.bslice z len zero parts) E Hc=some (.ref Hc.length z 0 len,Hc++[some ⟨z,el,true,true⟩]):=by
 simp only[stp]at h;split at h
 ·rename_i hc;obtain⟨⟨vs,Ha⟩,h1,h⟩:=qaa h;obtain⟨el,h2,h⟩:=qaa h;split at h
  ·rename_i hl;injection h with h;injection h with h3 h4
   refine⟨h4.symm,el,hl,h3.symm,fun Hc=>?_⟩;simp only[stp];rw[if_pos hc,(qrt h1 Hc).2];simp only[Option.bind_some];simp only at h2;rw[h2];rfl
  ·cases h
 ·cases h
theorem q5o {n0:Nat}{o:Oper}{z len:Nat}{zero:V}{parts:List (Nat × X)}(hop:cOp T o.op=some (.bslice z len zero parts)){E:Env}{H0 H1:Heap}{v:V}(h:stp n0 (.plit z len zero parts) E H0=some (v,H1))(H:Heap):OpSem T n0 o (AOp.plit z len zero parts).reads E H v H:=by
 intro a w M μ K Q hn hs hE hK;have h':stp n0 (.plit z len zero parts) (onlyE (AOp.plit z len zero parts).reads E) H0=some (v,H1):=by
  rw[<-h];exact qx5 (fun z a x av e=>by cases e) fun t ht=>by unfold onlyE;rw[if_pos ht]
 obtain⟨_,el,hle,rfl,h2⟩:=qv5 h';have h2:=h2 H;have h3:stp H.length (.bslice z len zero parts) (onlyE (AOp.plit z len zero parts).reads E) H=some (.ref H.length z 0 len,H++[some ⟨z,el,true,true⟩]):=h2;obtain⟨v',w',M',μ',hr,hst,hrel⟩:=qrk hop (Nat.le_refl _) hs (a:={ a with tmps:=onlyT (AOp.plit z len zero parts).reads a.tmps }) (qv6 hE) h3;have hf:frzV (H++[some ⟨z,el,true,true⟩]) (.ref H.length z 0 len)=some (.sl ((el.drop 0).take len),(H++[some (Blk.mk z el true true)]).set H.length (some (Blk.mk z el true false))):=by
  simp only[frzV,frzC,List.getElem?_append_right (Nat.le_refl H.length),Nat.sub_self,List.getElem?_cons_zero];rw[if_pos ⟨trivial,trivial,hle⟩];rfl
 obtain⟨M2,st2,r2,_⟩:=qmc (n0:=H.length) hst.sim hf hrel;obtain⟨μ3,st3⟩:=Step.take (hst.trans st2) rfl (hs.lowH (Nat.le_refl _));have e:(((H++[some (Blk.mk z el true true)]).set H.length (some (Blk.mk z el true false))).take H.length)=H:=by simp
 rw[e]at st3;have st4:Step T.gid n0 w M μ H w' M2 μ3 H:={ st3 with low:=fun n h=>st3.low n (Nat.le_trans h hn) }
 unfold Oper.wp;rw[qrx (l:=(AOp.plit z len zero parts).reads) hop (fun t ht=>ht) a];rcases hr with hr|⟨hr,hv⟩
 ·rw[hr];exact hK v' w' M2 μ3 st4 (r2.pureAny rfl μ3)
 ·rw[hr];subst hv;exact hK _ w' M2 μ3 st4 (r2.pureAny rfl μ3)
theorem qob {n0:Nat}{o:Oper}{op op0:AOp}(hop:cOp T o.op=some op0)(hsoft:Soft op op0){E:Env}{v:V}{H1:Heap}(h:stp n0 op E H=some (v,H1)):OpSem T n0 o op.reads E H v H1:=by
 by_cases hb:∀z len zero parts,op0=.bslice z len zero parts->op=op0
 case neg=>
  cases hsoft with
  |lit hl=>
   simp only[stp,getX]at h;injection h with h;injection h with h1 h2
   subst h1;subst h2;exact q8o hop hl
  |plit z len zero parts=>
   have e:=(qv5 h).1;subst e;exact q5o hop h _
  |refl=>exact absurd (fun _ _ _ _ _=>rfl) hb
  |load=>exact absurd (fun _ _ _ _ e=>by cases e) hb
  |store=>exact absurd (fun _ _ _ _ e=>by cases e) hb
 intro a w M μ K Q hn hs hE hK;have h2:stp n0 op0 (onlyE op.reads E) H=some (v,H1):=by
  rw[<-hsoft.same hb h];exact qx5 (fun z a x av e=>qxa z a x av (by rw[<-e];exact hop)) fun t ht=>by unfold onlyE;rw[if_pos (hsoft.reads t ht)]
 obtain⟨v',w',M',μ',hr,hst,hrel⟩:=qrk hop hn hs (a:={ a with tmps:=onlyT op.reads a.tmps }) (qv6 hE) h2;unfold Oper.wp;rw[qrx hop hsoft.reads a];rcases hr with hr|⟨hr,hv⟩
 ·rw[hr];exact hK v' w' M' μ' hst hrel
 ·rw[hr];subst hv;exact hK _ w' M' μ' hst hrel
def q2u (T:Tab)(n0:Nat)(o:Oper)(op:AOp)(E:Env)(H:Heap)(v:V):Prop:=
 ∃ag z t b i off,op=.sload ag z t/\E t=.ptr b i off/\b<H.length/\(∃k,H[b]?=some (some k))/\v.isTup=false/\(∀c ∈ v.cells,V.lowB H.length c=true)/\∀Hc:Heap,Hc[b]?=H[b]?->OpSem T n0 o op.reads E Hc v Hc
theorem q1i {n0:Nat}{o:Oper}{ag:Bool}{z t:Nat}{op0:AOp}(hop:cOp T o.op=some op0)(hsoft:Soft (.sload ag z t) op0){E:Env}{v:V}{H1:Heap}(h:stp n0 (.sload ag z t) E H=some (v,H1)) :
 H1=H/\(q2u T n0 o (.sload ag z t) E H v\/∀Hc,OpSem T n0 o (AOp.sload ag z t).reads E Hc v Hc):=by
 have h0:=h;simp only[stp]at h;split at h
 ·rename_i cs hg;obtain⟨u,h1,h2⟩:=qac h;injection h2 with h2 h3
  subst h2;subst h3;refine⟨rfl,.inr fun Hc=>?_⟩;cases hsoft with
  |refl=>exact absurd hop (qqo ag z t)
  |load=>exact qob (op:=.load ag z (.t t)) hop (.refl _) (by simp only[stp,getX,hg,h1,Option.map_some])
 ·rename_i b i off hg;split at h
  ·rename_i k hk;split at h
   ·rename_i el he;obtain⟨u,h1,h2⟩:=qaa h;split at h2
    ·rename_i hc;injection h2 with h2;injection h2 with h2 h3
     subst h2;subst h3;refine⟨rfl,.inl ⟨ag,z,t,b,i,off,rfl,hg,(List.getElem?_eq_some_iff.1 hk).1,⟨_,hk⟩,hc.2,fun c hcc=>List.all_eq_true.1 hc.1 c hcc,fun Hc hb=>?_⟩⟩;cases hsoft with
     |refl=>exact absurd hop (qqo ag z t)
     |load=>
      refine qob (op:=.load ag z (.t t)) hop (.refl _) ?_;simp only[stp,getX,hg,hb,hk,he,h1,Option.map_some]
    ·cases h2
   ·cases h
  ·cases h
 ·cases h
theorem qzm {H:Heap}{c c':V}{H1:Heap}(hp:c.cellPure=true)(h:frzC H c=some (c',H1)):H1=H:=by
 cases c<;>simp only[frzC]at h<;>first
  | (cases hp;done)
  | (injection h with h;injection h with _ h;exact h.symm)
theorem qu7 {H:Heap}:∀{cs cs':List V} {H1:Heap},cs.all V.cellPure=true->frzCs H cs=some (cs',H1)->H1=H
 | [],cs',H1,_,h=>by simp only[frzCs]at h;injection h with h;injection h with _ h;exact h.symm
 |c :: cs,cs',H1,hp,h=>by
  simp only[List.all_cons,Bool.and_eq_true]at hp;simp only[frzCs]at h;obtain⟨⟨c1,Ha⟩,h1,h3⟩:=qaa h;obtain⟨⟨c2,Hb⟩,h2,h4⟩:=qaa h3;injection h4 with h4;injection h4 with _ h4
  have e1:=qzm hp.1 h1;have e2:=qu7 hp.2 h2;rw[<-h4,e2,e1]
theorem q1d {H:Heap}{v v':V}{H1:Heap}(hp:v.pure=true)(h:qbv H v=some (v',H1)):H1=H:=by
 unfold qbv at h;obtain⟨⟨u,Ha⟩,h1,h⟩:=qaa h;simp only at h;split at h
 ·injection h with h;injection h with _ h
  subst h;cases v with
  |agg cs=>
   simp only[frzV]at h1;obtain⟨⟨cs',Hb⟩,h2,h1⟩:=qaa h1;injection h1 with h1;injection h1 with _ h1
   subst h1;exact qu7 hp h2
  |_=>
   simp only[frzV]at h1;exact qzm (by simpa[V.pure,V.cells]using hp) h1
 ·cases h
theorem qvy {n0:Nat}{z:Nat}{x y:X}{av:List Nat}{E:Env}{v:V}{H1:Heap}(h:stp n0 (.storeN z x y av) E H=some (v,H1)){t b i off:Nat}(ht:t ∈ av)(hE:E t=.ptr b i off):H1[b]?=H[b]?:=by
 simp only[stp]at h;split at h
 ·rename_i hc;have hap:=List.all_eq_true.1 hc.2 t ht;rw[hE]at hap;unfold qjq at h;split at h
  ·rename_i b' i' off' hg;rw[hg]at hap;have hne:b'≠b:=by
    simp only[apart,bne_iff_ne,ne_eq]at hap;exact fun e=>hap e.symm
   split at h
   ·rename_i k hk;split at h
    ·obtain⟨⟨u,Hu⟩,h1,h2⟩:=qaa h;have hHu:Hu=H:=by
      split at h1
      ·exact q1d hc.1 h1
      ·injection h1 with h1;injection h1 with _ h1;exact h1.symm
     subst hHu;simp only at h2;split at h2
     ·split at h2
      ·split at h2
       ·injection h2 with h2;injection h2 with _ h2
        rw[<-h2,List.getElem?_set_ne hne]
       ·cases h2
      ·cases h2
     ·cases h2
    ·cases h
   ·cases h
  ·cases h
 ·cases h
theorem q0l {n0 z bytes:Nat}{x y:X}{E:Env}{v:V}{H1:Heap}(h:stp n0 (.append z bytes x y) E H=some (v,H1)){b:Nat}{k:Blk}(hb:b<H.length)(hk:H1[b]?=some (some k)):H[b]?=some (some k):=by
 have key:∀{c:Nat} {X:Heap},(H.set c none++X)[b]?=some (some k)->H[b]?=some (some k):=by
  intro c X h;rw[List.getElem?_append_left (by simpa using hb)]at h;rcases Nat.decEq c b with hc|hc
  ·rwa[List.getElem?_set_ne hc]at h
  ·subst hc;rw[List.getElem?_set_self hb]at h;cases h
 have key2:∀{X:Heap},(H++X)[b]?=some (some k)->H[b]?=some (some k):=fun h=>by rwa[List.getElem?_append_left hb]at h
 simp only[stp]at h;obtain⟨ys,h1,h⟩:=qaa h;split at h
 ·split at h
  ·split at h
   ·injection h with h;injection h with _ h;rw[h];exact hk
   ·split at h
    ·injection h with h;injection h with _ h;subst h;exact key2 hk
    ·cases h
  ·split at h
   ·split at h
    ·split at h
     ·injection h with h;injection h with _ h;rw[h];exact hk
     ·injection h with h;injection h with _ h;subst h;exact key hk
    ·cases h
   ·cases h
  ·cases h
 ·cases h
theorem qx4 {n0:Nat}{op:AOp}(hl:op.loud=false)(hs:∀ag z t,op≠.sload ag z t){E:Env}{v:V}{H1:Heap}(h:stp n0 op E H=some (v,H1)):H1=H/\∀Hc,stp n0 op E Hc=some (v,Hc):=by
 cases op<;>try(cases hl;done)
 case sload ag z t=>exact absurd rfl (hs ag z t)
 case plit z len zero parts=>
  obtain⟨e,el,h1,h2,h3⟩:=qv5 h;refine⟨e,fun Hc=>?_⟩;simp only[stp]at h ⊢;split at h
  ·rename_i hc;rw[if_pos hc];obtain⟨q,g1,h⟩:=qaa h;obtain⟨el',g2,h⟩:=qaa h;split at h
   ·rename_i hl;injection h with h;injection h with h4 _
    rw[g1];simp only[Option.bind_some];rw[g2];simp only[Option.bind_some];rw[if_pos hl,h4]
   ·cases h
  ·cases h
 case max3 x y z=>
  simp only[stp]at h ⊢;split at h
  ·rename_i e1 e2 e3;split at h
   ·rename_i e4;injection h with h;injection h with h1 h2
    subst h1;subst h2;exact⟨rfl,fun _=>by rw[if_pos e4]⟩
   ·cases h
  ·cases h
 all_goals simp only[stp]at h ⊢
 all_goals try(split at h<;>try(cases h;done))
 all_goals try(split at h<;>try(cases h;done))
 all_goals try(split at h<;>try(cases h;done))
 all_goals first
  | (injection h with h;injection h with h1 h2;subst h1;subst h2;exact⟨rfl,fun _=>by first| (simp_all;done)| (simp_all;intros;omega)⟩)
  | (obtain⟨q,h1,h2⟩:=qac h
     injection h2 with h2 h3
     subst h2;subst h3;exact⟨rfl,fun _=>by simp_all⟩)
  | (cases h;done)
structure Link (T:Tab)(ops:Array Oper)(o:Oper)(ao:AOper):Prop where
 dst:o.dst=ao.dst
 op:∃op0,cOp T o.op=some op0/\Soft ao.op op0
 guard:(o.guard=none/\ao.guard=none)\/∃j want t,o.guard=some (j,want)/\(ops[j]?).bind (·.dst)=some t/\ao.guard=some (t,want)
theorem qvm {ops:Array Oper}{o:Oper}{ao:AOper}(h:cOper T ops o=some ao)(s:Bool){op:AOp}(hsoft:Soft op ao.op):Link T ops o { ao with sync:=s,op:=op }:=by
 unfold cOper at h;obtain⟨op,h1,h⟩:=qaa h;split at h
 ·rename_i hg;injection h with h;subst h
  exact⟨rfl,⟨_,h1,hsoft⟩,.inl ⟨hg,rfl⟩⟩
 ·rename_i j want hg;obtain⟨t,h2,h3⟩:=qac h;subst h3;exact⟨rfl,⟨_,h1,hsoft⟩,.inr ⟨j,want,t,hg,h2,rfl⟩⟩
theorem qrj {ops:Array Oper}{o:Oper}{ao:AOper}(hl:Link T ops o ao){a:Act}{E:Env}(hE:∀t,(∃want,ao.guard=some (t,want))->R T.gid w M μ (a.tmps.getD t Go.undef) (E t)){b:Bool}(h:gd ao E=some b) :
 Region.wanted o (yielded ops a.tmps)=b:=by
 rcases hl.guard with ⟨h1,h2⟩|⟨j,want,t,h1,h2,h3⟩
 ·simp only[gd,h2]at h;injection h with h
  subst h;simp[Region.wanted,h1]
 ·simp only[gd,h3]at h;split at h
  ·rename_i q hq;have hr:=hE t ⟨want,h3⟩;rw[hq]at hr;have hv:=hr.inv_bool;injection h with h
   subst h;have ht:a.tmps[t]?=some (.bool q):=by
    rw[Array.getD_eq_getD_getElem?]at hv;cases hx:a.tmps[t]? with
    |none=>rw[hx]at hv;cases hv
    |some x=>rw[hx]at hv;simp at hv;rw[hv]
   simp only[Region.wanted,h1,yielded,h2,Option.bind_some,ht];cases q<;>cases want<;>rfl
  ·rename_i q hq;have hr:=hE t ⟨want,h3⟩;rw[hq]at hr;injection h with h
   subst h;have ht:∀b:Bool,a.tmps[t]?≠some (.bool b):=by
    intro b hb;rw[Array.getD_eq_getD_getElem?,hb]at hr;cases hr with
    |c hr=>cases hr with|p hr=>cases hr
   simp only[Region.wanted,h1,yielded,h2,Option.bind_some];cases hx:a.tmps[t]? with
   |none=>rfl
   |some x=>
    cases x with
    |bool b=>exact absurd hx (ht b)
    |_=>rfl
  ·cases h
inductive Tr (T:Tab)(n0:Nat)(d:Bool)(ops:Array Oper):List Oper->List AOper->Env->Heap->Env->Heap->Prop
 |nil {E H}:Tr T n0 d ops [] [] E H E H
 |skip {o ao os aos E H E' H'} (hl:Link T ops o ao) (hg:gd ao E=some false) (rest:Tr T n0 d ops os aos (put E ao.dst .undef) H E' H'):Tr T n0 d ops (o :: os) (ao :: aos) E H E' H'
 |step {o ao os aos E H v H1 E' H'} (hl:Link T ops o ao) (hg:gd ao E=some true) (sem:OpSem T n0 o ao.op.reads E H v H1) (len:H.length<=H1.length) (pre:d=true->ao.sync=false->H <+: H1)
  (quiet:ao.op.loud=false->H1=H/\((∀Hc,OpSem T n0 o ao.op.reads E Hc v Hc)\/q2u T n0 o ao.op E H v))
  (spare:∀z x y av,ao.op=.storeN z x y av->∀t ∈ av,∀b i off,E t=.ptr b i off->H1[b]?=H[b]?)
  (kills:isApp ao.op=true->∀(b:Nat) (k:Blk),b<H.length->H1[b]?=some (some k)->H[b]?=some (some k)) (rest:Tr T n0 d ops os aos (put E ao.dst v) H1 E' H'):Tr T n0 d ops (o :: os) (ao :: aos) E H E' H'
theorem ERel.put {tmps:Array Value}{E:Env}(h:ERel T.gid w M μ tmps E){dst:Option Nat}(hd:∀d,dst=some d->d<tmps.size){v:Value}{c:V}(hr:R T.gid w M μ v c)(ds:List Deferred) :
 ERel T.gid w M μ (Act.put { tmps:=tmps,defers:=ds } dst v).tmps (put E dst c):=by
 cases dst with
 |none=>exact h
 |some d=>
  intro t;simp only[Act.put,_root_.Go.Abs.put,upd];by_cases ht:t=d
  ·subst ht;rw[if_pos rfl,Array.getD_eq_getD_getElem?,Array.getElem?_setIfInBounds,if_pos rfl,if_pos (hd t rfl)];exact hr
  ·rw[if_neg ht,Array.getD_eq_getD_getElem?,Array.getElem?_setIfInBounds,if_neg (fun e=>ht e.symm),<-Array.getD_eq_getD_getElem?];exact h t
theorem qeo (a:Act)(dst:Option Nat)(v:Value):(a.put dst v).tmps.size=a.tmps.size:=by cases dst<;>simp[Act.put]
theorem qde (a:Act)(dst:Option Nat)(v:Value):(a.put dst v).defers=a.defers:=by cases dst<;>rfl
theorem Tr.plain {n0:Nat}{d:Bool}{ops:Array Oper}{l:List Oper}{al:List AOper}{E:Env}{H:Heap}{E':Env}{H':Heap}(h:Tr T n0 d ops l al E H E' H') :
 ∀(k:Nat) (_:ops.toList.drop k=l) (n:Nat) (_:qqm n al=true) (a:Act) (w:World) (M:Nat->Prop) (μ:Inj) (_:n<=a.tmps.size) (_:n0<=H.length) (_:Sim T.gid w M μ H) (_:ERel T.gid w M μ a.tmps E) (_:a.defers=[])
  (Q:Exit->Act->World->Prop) (_:∀a' w' M' μ',Step T.gid n0 w M μ H w' M' μ' H'->ERel T.gid w' M' μ' a'.tmps E'->a'.defers=[]->a'.tmps.size=a.tmps.size->Q .normal a' w'),
  wpOps T.P ops Q (List.range' k l.length) a w:=by
 induction h with
 |nil=>intro k _ n _ a w M μ _ _ hs hE hd Q hQ;exact hQ a w M μ (.refl hs) hE hd rfl
 | @skip o ao os aos E H E' H' hl hg _ ih=>
  intro k hk n hds a w M μ hn hn0 hs hE hd Q hQ;have ho:ops[k]?=some o:=by
   have:=congrArg (·[0]?) hk;simpa[List.getElem?_drop]using this
  have hw:=qrj (w:=w) (M:=M) (μ:=μ) hl (fun t _=>hE t) hg;simp only[qqm,List.all_cons,Bool.and_eq_true]at hds;rw[List.length_cons,List.range'_succ];simp only[wpOps,ho,hw,Bool.false_eq_true,if_false];refine ih (k+1) (by rw[<-List.drop_drop];simp[hk]) n hds.2 _ w M μ (by rw[qeo];exact hn) hn0 hs ?_ (by rw[qde];exact hd) Q (fun a' w' M' μ' st hE' hd' hsz=>hQ a' w' M' μ' st hE' hd' (by rw[hsz,qeo]));rw[hl.dst];exact ERel.put hE (fun dd hdd=>by rw[hdd]at hds;have:=hds.1;simp at this;omega) R.undef a.defers
 | @step o ao os aos E H v H1 E' H' hl hg sem len pre quiet spare kills _ ih=>
  intro k hk n hds a w M μ hn hn0 hs hE hd Q hQ;have ho:ops[k]?=some o:=by
   have:=congrArg (·[0]?) hk;simpa[List.getElem?_drop]using this
  have hw:=qrj (w:=w) (M:=M) (μ:=μ) hl (fun t _=>hE t) hg;simp only[qqm,List.all_cons,Bool.and_eq_true]at hds;rw[List.length_cons,List.range'_succ];simp only[wpOps,ho,hw,if_true];refine .inl (sem a w M μ _ Q hn0 hs (fun t _=>hE t) fun v' w' M' μ' st hr=>?_);refine ih (k+1) (by rw[<-List.drop_drop];simp[hk]) n hds.2 _ w' M' μ' (by rw[qeo];exact hn) (by omega) st.sim ?_ (by rw[qde];exact hd) Q
   (fun a' w2 M2 μ2 st2 hE' hd' hsz=>hQ a' w2 M2 μ2 (st.trans st2) hE' hd' (by rw[hsz,qeo]))
  rw[hl.dst];exact ERel.put (fun t=>st.r hs (hE t)) (fun dd hdd=>by rw[hdd]at hds;have:=hds.1;simp at this;omega) hr a.defers
end Go.Abs
