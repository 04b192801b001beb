/- Parts of the proof: FpTp6. -/
import Derived.Test.YtpdchdfajhbglaaGreatDoorPc
import Derived.Test.YtpdchdfajhbglaaGreatDoorSj
namespace Go.Abs.W
set_option maxRecDepth 20000
theorem qac3 {y:Iv}(g:y.Gd):y.hull y=y:=by
 rcases g with rfl|k
 ·rfl
 ·have a:y.all=false:=by
   cases h:y.all
   ·rfl
   ·simp[Iv.known,h]at k
  unfold Iv.hull;rw[k,Bool.true_and,if_pos rfl];have e1:y.lo.lo2 y.lo=y.lo:=by unfold Dy.lo2;split<;>rfl
  have e2:y.hi.hi2 y.hi=y.hi:=by unfold Dy.hi2;split<;>rfl
  rw[e1,e2,<-a]
theorem qaf8 {x:Iv}{p:Int}(w:x.W):(x.sqrt p).Gd:=by
 by_cases k:x.known=true
 ·have v:=qq4 (qaf7 (p:=p) w w (.inr ⟨k,k,Int.le_refl _,Int.le_refl _⟩));refine Gd.of_valid v fun h=>?_
  unfold Iv.sqrt at h ⊢;split
  ·rename_i h2;rw[if_pos h2]at h;exact qq0 h
  ·rfl
 ·left;unfold Iv.sqrt;rw[if_neg];simp only[Bool.and_eq_true];exact fun h=>k h.1.1
theorem qajx {x:Iv}{n p:Int}(w:x.W):(x.pow n p).Gd:=by
 refine Gd.of_valid (qab6 w) fun h=>?_
 unfold Iv.pow at h ⊢;split
 ·rename_i h2;rw[if_pos h2]at h;split
  ·rename_i h3;rw[if_pos h3]at h;cases h
  ·rename_i h3;rw[if_neg h3]at h;split
   ·rename_i h4;rw[if_pos h4]at h;exact qq0 h
   ·rename_i h4;rw[if_neg h4]at h;exact qq0 h
 ·rfl
theorem qaj5 {x:Iv}(w:x.W):x.neg.Gd:=by
 unfold Iv.neg;split
 ·rename_i k;obtain⟨o1,o2⟩:=qai w k;have le:=qal w k;exact .inr (qcl (qh9 o2) (qh9 o1) (by rw[qgd,qgd];omega))
 ·exact .inl rfl
theorem qak0 {n d p:Int}(hp:precB p=true):(encI n d p).Gd:=by
 unfold encI;split
 ·rename_i hr;simp only[rvB,Bool.and_eq_true,decide_eq_true_eq]at hr;obtain⟨⟨⟨⟨h1,h2⟩,h3⟩,h4⟩,_⟩:=hr;have on:=nD_ok (k:=n) (by omega);have od:=nD_ok (k:=d) (by omega);have dv:0<(nD d).val:=by rw[qpp];exact Int.mul_pos (by omega) (qax _)
  have dm:(nD d).m≠[]:=by
   intro h;have:(nD d).val=0:=by unfold Dy.val;rw[Dy.absN_nil h];simp
   omega
  unfold Iv.made;split
  ·rename_i hz;refine .inr (qcl rDiv_ok rDiv_ok ((qrp on od hp dm).le_up (qro on od hp dm) (fun g g2 a b=>?_) hz.1 hz.2));rw[qfh dv]at a;rw[qgm dv]at b;exact(qav dv).1 (Int.le_trans a b)
  ·exact .inl rfl
 ·exact .inl rfl
theorem qaeu {k n p:Int}{x y:Iv}(wx:x.W)(wy:y.W):(appI k n x y p).Gd:=by
 unfold appI;split
 ·exact qaiv wx wy
 split
 ·exact qaiv wx (neg_W wy)
 split
 ·exact qam2 wx wy
 split
 ·exact qany wx wy
 split
 ·exact qaj5 wx
 split
 ·exact qajx wx
 split
 ·exact(qakt wx).1
 split
 ·exact(qam5 wx).1
 split
 ·exact qaen wx
 split
 ·exact qaen wx
 split
 ·exact qaf8 wx
 ·exact .inl rfl
theorem qaoh {l:List Iv}{k:Nat}(g:∀y ∈ l,y.Gd):(at0 l k).Gd:=by
 unfold at0;cases h:l[k]? with
 |none=>exact .inl rfl
 |some z=>exact g z (List.mem_of_getElem? h)
theorem qaew {p:Int}(hp:precB p=true):∀{os:List Op6} {l:List Iv},(∀y ∈ l,y.W)->(∀y ∈ l,y.Gd)->∀y ∈ allL p os l,y.Gd
 | [],_,_,g=>g
 |o :: os,l,w,g=>by
  have gs:(stpI o l p).Gd:=by
   unfold stpI;split
   ·exact qak0 hp
   ·split
    ·exact qaeu (at0_W w) Iv.whole_W
    ·exact qaeu (at0_W w) (at0_W w)
  exact qaew hp (os:=os) (app_W w (qabc w)) fun y hy=>by
   rcases List.mem_append.1 hy with h|h
   ·exact g y h
   ·rw[List.mem_singleton.1 h];exact gs
theorem qai7 {t:Tp}{q:Int}{s:Sg}(hp:precB q=true)(w:BxW s.tube)(k:∀x ∈ s.tube,x.known=true):(valI t q s).Gd:=
 qaoh (qaew hp w.all fun y hy=>.inr (k y hy))
structure Tp.L (t:Tp):Prop where
 ops:t.ops.length<=9223372036854775807
 outs:t.outs.length<=9223372036854775807
set_option maxHeartbeats 4000000 in
theorem qabw (p:Pp)(t:Tp)(q:Int)(tp:p.T)(lt:t.L):CQ prog qph [p.v,t.v,.int .i64 q] (.bool true):=by
 refine qaf rfl fun H=>?_
 simp[Tp.v];refine zq qaes ?_;simp[sgs];refine qam rfl rfl (H1:=H++[some ⟨2,[p.v],false,true⟩,some ⟨3,[.agg [.int .i64 t.ins,.sl (t.ops.map Op6.v),.sl (t.outs.map iv64)]],false,true⟩,some ⟨2,[p.v],true,false⟩]) (vs:=[pps [p]]) (by simp[prep,frzVs,frzV,sgs];rfl) (qag9 [p] (by simp) (by simp;exact tp.L)) ?_;rcases Bool.eq_false_or_eq_true p.great with hg|hg
 ·simp[hg]
 have w:=tp.W hg;by_cases h40:(40:Int)<t.ops.length
 ·simp[hg,h40]
 by_cases h64:64<q/\q<=512
 ·simp[hg,h40,h64]
 have cr:=qahy p t q w lt.ops lt.outs;simp only[Tp.v]at cr;have wR:(rngI p t q).W:=by
  unfold rngI;split
  ·exact q5i fun y hy=>by
    obtain⟨s,hs,rfl⟩:=List.mem_map.1 hy;exact q14 (w.all s hs).tube
  ·exact nI_W (by omega) (by omega)
 have ct:=qrk t lt.ops lt.outs;simp only[Tp.v]at ct;have wz:Iv.W ⟨⟨false,[],0⟩,⟨false,[],0⟩,false⟩:=by rw[<-q7n];exact nI_W (by omega) (by omega)
 have cz:=qpc _ _ wz wz;have cp:=qaai p w;have cpr:=qafa q;have bnd:0<=t.ins->t.ins<=8->True:=fun _ _=>trivial
 clear bnd;simp[hg,h40];refine⟨fun _ _=>?_,fun _=>?_⟩;all_goals
  refine zq cr ?_;simp;refine zq cp ?_;cases hp:p.valid
  ·obtain⟨e1,e2⟩:=qnp (p:=p) (t:=t) (q:=q) (by simp[rngB,hp]);rw[e1,e2];simp;refine zq cz ?_;simp
  simp;refine zq ct ?_;cases ht:t.valid
  ·obtain⟨e1,e2⟩:=qnp (p:=p) (t:=t) (q:=q) (by simp[rngB,ht]);rw[e1,e2];simp;refine zq cz ?_;simp
  by_cases hi:t.ins=p.start.length
  case neg=>
   obtain⟨e1,e2⟩:=qnp (p:=p) (t:=t) (q:=q) (by simp[rngB,hi]);rw[e1,e2];simp[ivs,hi];refine zq cz ?_;simp
  by_cases hu:t.outs.length=1
  case neg=>
   obtain⟨e1,e2⟩:=qnp (p:=p) (t:=t) (q:=q) (by simp[rngB,hu]);have hu2:¬(t.outs.length:Int)=1:=by omega
   rw[e1,e2];simp[ivs,hi,hu2];refine zq cz ?_;simp
  simp[ivs,hi,hu];refine zq cpr ?_;cases hq:precB q
  ·obtain⟨e1,e2⟩:=qnp (p:=p) (t:=t) (q:=q) (by simp[rngB,hq]);rw[e1,e2];simp;refine zq cz ?_;simp
  have hr:rngB p t q=true:=by simp[rngB,hp,ht,hi,hu,hq]
  have eI:rngI p t q=hullL (p.segs.map (valI t q)):=by unfold rngI;rw[if_pos hr]
  have eE:rngE p t q=if p.segs=[]then 7 else 0:=by unfold rngE;rw[if_pos hr]
  rw[eI]at wR;rw[eI,eE];clear cr ct cp cpr cz;by_cases hs:p.segs=[]
  ·have e0:hullL (List.map (valI t q) [])=⟨⟨false,[],0⟩,⟨false,[],0⟩,false⟩:=q7n;rw[hs,e0];simp[sgs];refine qaa rfl rfl rfl (qpc _ _ wz wz) ?_;simp
  ·have hs1:¬(p.segs.length:Int)=0:=by
    intro h;exact hs (List.eq_nil_of_length_eq_zero (by omega))
   have hlen:=w.len;obtain⟨l1,l2⟩:=qael hp;have⟨X,hX⟩:∃X,X=hullL (p.segs.map (valI t q)):=⟨_,rfl⟩
   rw[<-hX]at wR ⊢;have cE:=qpc X X wR wR;simp[hs,sgs];refine WK_up (fun i E H'=>E 2=.int .i64 q/\E 4=.ptr (H.length+1) 0 0/\E 7=.ptr (H.length+3) 0 0/\E 8=.int .i64 0/\E 9=.ptr (H.length+4) 0 0/\E 85=sgs p.segs/\E 86=.int .i64 p.segs.length/\E 87=.int .i64 i /\
    ∃c G,H'=H++(some ⟨2,[p.v],false,true⟩ :: some ⟨3,[.agg [.int .i64 p.start.length,.sl (t.ops.map Op6.v),.sl (t.outs.map iv64)]],false,true⟩ :: some ⟨2,[p.v],true,false⟩ :: some ⟨7,[X.v],false,true⟩ :: some ⟨7,[c],false,true⟩ :: G) /\
     (i=0->c=zV)/\(0<i->c=(hullL ((p.segs.take i).map (valI t q))).v)) p.segs.length ?_ ?_
   ·simp[sgs,zV,ivs]
   ·rintro i E H' hi' ⟨e2,e4,e7,e8,e9,e85,e86,e87,c,G,rfl,hc0,hc1⟩;rcases Nat.lt_or_ge i p.segs.length with hlt|hge
    ·have g1:IntKind.i64.wrap ((i:Int)+1)=(i:Int)+1:=by rw[wrap_i64]<;>omega
     have hm:=List.getElem_mem hlt;have ws:=w.all _ hm;obtain⟨lt,ky⟩:=l2 _ hm;have cr:=qai0 t p.segs[i].tube q ht (by omega) (by omega) ws.tube.all;simp only[Tp.v,hi]at cr;have ev:(t.outs.map fun k=>at0 (allL q t.ops p.segs[i].tube) k.toNat)=[valI t q p.segs[i]]:=by
      have⟨k0,hk0⟩:∃k,t.outs=[k]:=by
       match t.outs,hu with
       | [k],_=>exact⟨k,rfl⟩
      simp[hk0,valI]
     rw[ev]at cr;have wv:=q14 (t:=t) (q:=q) ws.tube;have gv:=qac3 (qai7 (t:=t) hq ws.tube ky);have et:=qy1 (f:=valI t q) hlt;have wL:(hullL ((p.segs.take i).map (valI t q))).W:=q5i fun y hy=>by
      obtain⟨s,hs,rfl⟩:=List.mem_map.1 hy;exact q14 (w.all s (List.mem_of_mem_take hs)).tube
     simp only[sgs]at e85;simp[qc2,e2,e4,e85,e86,e87,hlt];refine zq cr ?_;have et3:hullL (List.take (i+1) (List.map (valI t q) p.segs))=hullL ((p.segs.take (i+1)).map (valI t q)):=by rw[List.map_take]
     by_cases h0:i=0
     ·subst h0;rw[if_pos rfl]at et;rw[et]at et3;rw[hc0 rfl];have ch:=q80 _ _ wv wv;rw[gv]at ch;generalize valI t q p.segs[0]=Y at *
      simp[e9,zV,ivs];refine zq ch ?_;simp at et3;simp[e2,e4,e7,e8,e9,e85,e86,e87,et3,sgs];decide
     ·rw[if_neg h0]at et;rw[et]at et3;rw[hc1 (by omega)];generalize hullL ((p.segs.take i).map (valI t q))=L at *
      have ch:=q80 L (valI t q p.segs[i]) wL wv;generalize valI t q p.segs[i]=Y at *
      have h1:¬(i:Int)=0:=by omega
      simp[e9,h0,ivs];refine zq ch ?_;simp[e2,e4,e7,e8,e9,e85,e86,e87,et3,g1,sgs]
    ·obtain rfl:i=p.segs.length:=by omega
     have hc:=hc1 (by omega);rw[List.take_length,<-hX]at hc;rw[hc];simp[qc2,e7,e8,e9,e86,e87,hs];refine zq cE ?_;simp
end Go.Abs.W
