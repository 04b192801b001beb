/- Parts of the proof: FpIv, FpRef5, FpPipe, FpPipe2, FpPipe3, FpCut, FpRef37, FpRef37b, FpLaw37, FpAwake, FpCutL, FpCutM, FpCuts. -/
import Derived.Test.YtpdchdfajhbglaaGreatDoorHm
import Derived.Test.YtpdchdfajhbglaaGreatDoorFe
import Derived.Test.YtpdchdfajhbglaaGreatDoorFe
import Derived.Test.YtpdchdfajhbglaaGreatDoorGr
namespace Go.Abs.W
structure BxW (l:List Iv):Prop where
 len:l.length<=100000000
 all:∀x ∈ l,x.W
def boxOk (l:List Iv):Bool:=decide (1<=l.length)&&decide (l.length<=8)&&l.all fun x=>!x.all&&x.valid
def qrh (a b:List Iv):Bool:=boxOk a&&boxOk b&&decide (a.length=b.length)&&allB Iv.ins a b
theorem qapb (x:Iv)(w:x.W):CQ prog q1b [x.v] (.bool (x.all || !x.valid)):=by
 refine qaf rfl fun H=>?_
 simp;repeat' first
  | (refine qaa rfl rfl rfl (qgo x w) ?_;simp)
  |refine And.intro ?_ ?_
  |intro _
 all_goals first| (simp[*];done)| (simp[*];grind)|grind
theorem qxa (l:List Iv)(w:BxW l):CQ prog q5y [ivs l] (.bool (boxOk l)):=by
 refine qaf rfl fun H=>?_
 have hl:=w.len;have hq:(l.any fun x=>x.all || !x.valid)=!(l.all fun x=>!x.all&&x.valid):=by simp[List.not_all_eq_any_not]
 unfold boxOk;generalize l.all (fun x=>!x.all&&x.valid)=c at *
 simp[ivs];repeat' first
  | (refine WL_ev rfl rfl rfl (qrm l (by omega) fun x hx=>Cb_of (fun _=>rfl) (qapb x (w.all x hx))) ?_;simp[hq])
  |refine And.intro ?_ ?_
  |intro _
 all_goals first| (simp[*];done)| (simp[*];grind)|grind
theorem qamb (a b:List Iv)(wa:BxW a)(wb:BxW b):CQ prog qadd [ivs a,ivs b] (.bool (boxOk a&&boxOk b&&decide (a.length=b.length))):=by
 refine qaf rfl fun H=>?_
 simp;repeat' first
  | (refine qaa rfl rfl rfl (qxa a wa) ?_;simp[ivs])
  | (refine qaa rfl rfl rfl (qxa b wb) ?_;simp)
  |refine And.intro ?_ ?_
  |intro _
 all_goals first| (simp[*];done)| (simp[*];grind)|grind
theorem qpe (a b:List Iv)(wa:BxW a)(wb:BxW b):CQ prog q3m [ivs a,ivs b] (.bool (qrh a b)):=by
 refine qaf rfl fun H=>?_
 have hl:=wa.len;have hl2:=wb.len;simp;repeat' first
  | (refine qaa rfl rfl rfl (qamb a b wa wb) ?_;simp)
  | (refine WL_ev rfl rfl rfl (qaan a b (by omega) fun x hx y hy=>Cb_of (fun _=>rfl) (qaam x y (wa.all x hx) (wb.all y hy))) ?_;simp)
  |refine And.intro ?_ ?_
  |intro _
 all_goals first| (simp[qrh, *];done)| (simp[qrh, *];grind)|grind [qrh]
set_option maxHeartbeats 4000000
theorem qw3 (l:List Iv)(w:BxW l):CQ prog q0y [ivs l] (.bool (boxOk l)):=by
 refine qaf rfl fun H=>?_
 have hl:=w.len;simp[ivs];refine WK_up (fun i E H'=>H'=H/\E 0=ivs l/\E 3=.int .i64 i/\(∀j x,j<i->l[j]?=some x->(!x.all&&x.valid)=true)) l.length ?_ ?_
 ·simp[ivs]
 ·rintro i E H' hi ⟨rfl,h0,h3,hp⟩;simp only[ivs]at h0 ⊢;rcases Nat.lt_or_ge i l.length with hlt|hge
  ·have e2:IntKind.i64.wrap ((i:Int)+1)=((i+1:Nat):Int):=by rw[wrap_i64]<;>omega
   have wx:=w.all l[i] (List.getElem_mem hlt);have no:(!l[i].all&&l[i].valid)=false->boxOk l=false:=by
    intro h;unfold boxOk;rw[show(l.all fun x=>!x.all&&x.valid)=false from ?_]
    ·simp
    ·rw[Bool.eq_false_iff];intro h';rw[List.all_eq_true.1 h' _ (List.getElem_mem hlt)]at h;cases h
   have nx:(!l[i].all&&l[i].valid)=true->∀(j:Nat) (x:Iv),j<i+1->l[j]?=some x->(!x.all&&x.valid)=true:=by
    intro h j x hj hx;rcases Nat.lt_or_ge j i with hji|hji
    ·exact hp j x hji hx
    ·have:j=i:=by omega
     subst this;rw[List.getElem?_eq_getElem hlt]at hx;injection hx with hx;rw[<-hx];exact h
   simp[qg8,h0,h3,hlt];refine qaa rfl rfl rfl (qpb l[i] wx) ?_;simp[h0,h3,hlt,e2];cases hv:l[i].valid<;>cases ha:l[i].all;all_goals simp[hv,ha]at no nx ⊢
   all_goals first|exact no|exact fun j x hj hx=>nx j x hj hx|trace_state
  ·have hin:i=l.length:=by omega
   subst hin;have e1:(l.all fun x=>!x.all&&x.valid)=true:=by
    rw[List.all_eq_true];intro x hx;obtain⟨j,hj,rfl⟩:=List.getElem_of_mem hx;exact hp j _ hj (List.getElem?_eq_getElem _)
   simp[qg8,h0,h3,boxOk,e1];grind
def boxIn (a b:List Iv):Bool:=decide (a.length=b.length)&&allB Iv.ins a b
theorem qnf (l m:List Iv)(wl:BxW l)(wm:BxW m):CQ prog qte [ivs l,ivs m] (.bool (boxIn l m)):=by
 refine qaf rfl fun H=>?_
 have hll:=wl.len;simp[ivs,boxIn];refine⟨fun hne=>by simp[show l.length≠m.length by omega],fun heq=>?_⟩
 replace heq:l.length=m.length:=by omega
 refine WK_up (fun i E H'=>H'=H/\E 0=ivs l/\E 1=ivs m/\E 5=.int .i64 i/\(∀j x y,j<i->l[j]?=some x->m[j]?=some y->x.ins y=true)) l.length ?_ ?_
 ·simp[ivs]
 ·rintro i E H' hi ⟨rfl,h0,h1,h5,hp⟩;simp only[ivs]at h0 h1 ⊢;rcases Nat.lt_or_ge i l.length with hlt|hge
  ·have e2:IntKind.i64.wrap ((i:Int)+1)=((i+1:Nat):Int):=by rw[wrap_i64]<;>omega
   have hlt2:i<m.length:=by omega
   simp[qew,h0,h1,h5,hlt,hlt2];refine qaa rfl rfl rfl (q6j l[i] m[i] (wl.all _ (List.getElem_mem hlt)) (wm.all _ (List.getElem_mem hlt2))) ?_;simp[h0,h1,h5,e2];refine⟨fun hpx _=>?_,fun hpx j x y hj hx hy=>?_⟩
   ·rw[Bool.eq_false_iff];intro ha;rw[qo9]at ha;rw[ha i _ _ (List.getElem?_eq_getElem hlt) (List.getElem?_eq_getElem hlt2)]at hpx;cases hpx
   ·rcases Nat.lt_or_ge j i with hji|hji
    ·exact hp j x y hji hx hy
    ·have:j=i:=by omega
     subst this;rw[List.getElem?_eq_getElem hlt]at hx;rw[List.getElem?_eq_getElem hlt2]at hy;injection hx with hx;injection hy with hy;rw[<-hx,<-hy];exact hpx
  ·have hin:i=l.length:=by omega
   subst hin;have e1:allB Iv.ins l m=true:=by
    rw[qo9];intro j x y hx hy;exact hp j x y (List.getElem?_eq_some_iff.1 hx).1 hx hy
   simp[qew,h0,h5,e1,heq]
theorem qsh (l m:List Iv)(wl:BxW l)(wm:BxW m):CQ prog qvp [ivs l,ivs m] (.bool (decide (l=m))):=by
 refine qaf rfl fun H=>?_
 have hll:=wl.len;simp[ivs];refine⟨fun hne=>?_,fun heq=>?_⟩
 ·intro h;rw[h]at hne;exact hne rfl
 replace heq:l.length=m.length:=by omega
 refine WK_up (fun i E H'=>H'=H/\E 0=ivs l/\E 1=ivs m/\E 5=.int .i64 i/\(∀j x y,j<i->l[j]?=some x->m[j]?=some y->x=y)) l.length ?_ ?_
 ·simp[ivs]
 ·rintro i E H' hi ⟨rfl,h0,h1,h5,hp⟩;simp only[ivs]at h0 h1 ⊢;rcases Nat.lt_or_ge i l.length with hlt|hge
  ·have e2:IntKind.i64.wrap ((i:Int)+1)=((i+1:Nat):Int):=by rw[wrap_i64]<;>omega
   have hlt2:i<m.length:=by omega
   simp[qfn,h0,h1,h5,hlt,hlt2];refine qaa rfl rfl rfl (qpc l[i] m[i] (wl.all _ (List.getElem_mem hlt)) (wm.all _ (List.getElem_mem hlt2))) ?_;simp[h0,h1,h5,e2];refine⟨fun hpx h=>?_,fun hpx j x y hj hx hy=>?_⟩
   ·subst h;exact hpx rfl
   ·rcases Nat.lt_or_ge j i with hji|hji
    ·exact hp j x y hji hx hy
    ·have:j=i:=by omega
     subst this;rw[List.getElem?_eq_getElem hlt]at hx;rw[List.getElem?_eq_getElem hlt2]at hy;injection hx with hx;injection hy with hy;rw[<-hx,<-hy];exact hpx
  ·have hin:i=l.length:=by omega
   subst hin;have e1:l=m:=by
    refine List.ext_getElem? fun j=>?_
    rcases Nat.lt_or_ge j l.length with hj|hj
    ·rw[List.getElem?_eq_getElem hj,List.getElem?_eq_getElem (by omega)]
     congr 1
     exact hp j _ _ hj (List.getElem?_eq_getElem hj) (List.getElem?_eq_getElem (by omega))
    ·rw[List.getElem?_eq_none hj,List.getElem?_eq_none (by omega)]
   simp[qfn,h0,h5,<-e1]
end Go.Abs.W
namespace Go.Abs.W
set_option maxHeartbeats 4000000
structure Sg.W (s:Sg):Prop where
 fr:s.fr.W
 to:s.to.W
 tube:BxW s.tube
 en:BxW s.en
structure Pp.W (p:Pp):Prop where
 start:BxW p.start
 len:p.segs.length<=100000000
 all:∀s ∈ p.segs,s.W
def Pp.bef (p:Pp):Nat->List Iv
 |0=>p.start
 |i+1=>(p.segs[i]?).elim [] Sg.en
def Pp.lnk (p:Pp)(i:Nat)(s:Sg):Bool:=match i with
 |0=>true
 |i+1=>(p.segs[i]?).elim false fun q=>decide (s.fr.cmp q.to=0)
def Pp.segAt (p:Pp)(i:Nat)(s:Sg):Bool:=s.fr.valid&&s.to.valid&&decide (s.fr.cmp s.to<0)&&decide (s.tube.length=p.start.length)&&p.lnk i s&&qrh s.en s.tube&&qrh (p.bef i) s.tube
def Pp.segsOk (p:Pp):Bool:=(List.range p.segs.length).all fun i=>(p.segs[i]?).elim true (p.segAt i)
def Pp.valid (p:Pp):Bool:=boxOk p.start&&decide (p.start.length<=4)&&decide (p.segs.length<=1000)&&p.segsOk
theorem qnx (a b:Dy)(wa:a.W)(wb:b.W):CQ prog q5t [a.v,b.v] (.bool (decide (a.cmp b<0))):=by
 refine qaf rfl fun H=>?_
 simp;refine qaa rfl rfl rfl (qei a b wa wb) ?_;simp
theorem q8t (p:Pp)(s:Sg)(h:p.segs[0]?=some s):CQ prog q3a [p.v] s.fr.v:=by
 refine qaf rfl fun H=>?_
 simp[sgs,h]
theorem qakk (p:Pp)(s:Sg)(h:p.segs[p.segs.length-1]?=some s)(hl:p.segs.length<=100000000):CQ prog q5u [p.v] s.v:=by
 refine qaf rfl fun H=>?_
 have h0:0<p.segs.length:=by have:=(List.getElem?_eq_some_iff.1 h).1;omega
 have e1:IntKind.i64.wrap ((p.segs.length:Int)-1)=((p.segs.length-1:Nat):Int):=by rw[wrap_i64]<;>omega
 have⟨k,hk⟩:∃k,k=p.segs.length-1:=⟨_,rfl⟩
 rw[<-hk]at h e1;simp[sgs,e1,h]
def Pp.during (p:Pp)(t:Dy):Bool:=match p.segs[0]?,p.segs[p.segs.length-1]? with
 |some s,some z=>!decide (t.cmp s.fr<0)&&!decide (z.to.cmp t<0)
 |_,_=>false
theorem Pp.W.at {p:Pp}(w:p.W){i:Nat}{s:Sg}(h:p.segs[i]?=some s):s.W:=w.all s (List.mem_of_getElem? h)
theorem qadx (p:Pp)(t:Dy)(w:p.W)(wt:t.W):CQ prog q0o [p.v,t.v] (.bool (p.during t)):=by
 refine qaf rfl fun H=>?_
 rcases Nat.eq_zero_or_pos p.segs.length with h0|h0
 ·have h1:p.segs=[]:=List.eq_nil_of_length_eq_zero h0;simp[sgs,Pp.during,h1]
 ·have⟨s,hs⟩:∃s,p.segs[0]?=some s:=⟨_,List.getElem?_eq_getElem h0⟩
  have⟨z,hz⟩:∃z,p.segs[p.segs.length-1]?=some z:=⟨_,List.getElem?_eq_getElem (by omega)⟩
  have e1:(0:Int)<p.segs.length:=by omega
  unfold Pp.during;rw[hs,hz];simp[sgs];repeat' first
   | (refine qaa rfl rfl rfl (q8t p s hs) ?_;simp)
   | (refine qaa rfl rfl rfl (qakk p z hz w.len) ?_;simp)
   | (refine qaa rfl rfl rfl (qnx t s.fr wt (w.at hs).fr) ?_;simp)
   | (refine qaa rfl rfl rfl (qnx z.to t (w.at hz).to wt) ?_;simp)
   |refine And.intro ?_ ?_
   |intro _
  all_goals first| (simp[*];done)| (simp[*];grind)|grind
theorem Pp.W.bef {p:Pp}(w:p.W)(i:Nat):BxW (p.bef i):=by
 cases i with
 |zero=>exact w.start
 |succ i=>
  show BxW ((p.segs[i]?).elim [] Sg.en);cases h:p.segs[i]? with
  |none=>exact⟨by simp,by simp⟩
  |some s=>exact(w.at h).en
theorem segsOk_iff {p:Pp}:p.segsOk=true↔∀i s,p.segs[i]?=some s->p.segAt i s=true:=by
 unfold Pp.segsOk;rw[List.all_eq_true];constructor
 ·intro h i s hs;have:=h i (List.mem_range.2 (List.getElem?_eq_some_iff.1 hs).1);rw[hs]at this;exact this
 ·intro h i hi;have hlt:=List.mem_range.1 hi;rw[List.getElem?_eq_getElem hlt];exact h i _ (List.getElem?_eq_getElem hlt)
theorem qw4 (p:Pp)(w:p.W):CQ prog q3b [p.v] (.bool p.valid):=by
 refine qaf rfl fun H=>?_
 simp[ivs,sgs];have hst:=w.start.len;have hse:=w.len;refine qaa rfl rfl rfl (qxa p.start w.start) ?_;cases hb:boxOk p.start
 ·simp[Pp.valid,hb]
 rcases Nat.lt_or_ge 4 p.start.length with h4|h4
 ·have e1:(4:Int)<p.start.length:=by omega
  simp[Pp.valid,e1];intro _ h;omega
 rcases Nat.lt_or_ge 1000 p.segs.length with h5|h5
 ·have e1:¬(4:Int)<p.start.length:=by omega
  have e2:(1000:Int)<p.segs.length:=by omega
  simp[Pp.valid,e1,e2];intro _ _ h;omega
 have e1:¬(4:Int)<p.start.length:=by omega
 have e2:¬(1000:Int)<p.segs.length:=by omega
 simp[e1,e2];refine WK_up (fun i E H'=>H++[some ⟨2,[p.v],false,true⟩] <+: H'/\E 1=.ptr H.length 0 0/\E 27=sgs p.segs/\E 28=.int .i64 p.segs.length/\E 29=.int .i64 i/\E 3=.int .i64 p.start.length/\E 4=ivs (p.bef i) /\
  (∀j s,j<i->p.segs[j]?=some s->p.segAt j s=true)) p.segs.length ?_ ?_
 ·simp[ivs,sgs,Pp.bef]
 ·rintro i E H' hi ⟨hH,h1,h27,h28,h29,h3,h4',hp⟩;simp only[sgs,ivs]at h27 h4';have hH0:H <+: H':=(List.prefix_append _ _).trans hH;have hB:∀l:Heap,(H'++l)[H.length]?=some (some ⟨2,[p.v],false,true⟩):=by
   intro l;obtain⟨t,rfl⟩:=hH;simp
  have hv:p.valid=p.segsOk:=by simp[Pp.valid,hb,h4,h5]
  rcases Nat.lt_or_ge i p.segs.length with hlt|hge
  ·have⟨s,hs⟩:∃s,p.segs[i]?=some s:=⟨_,List.getElem?_eq_getElem hlt⟩
   have hs':p.segs[i]=s:=by rw[List.getElem?_eq_getElem hlt]at hs;injection hs
   have ws:=w.at hs;have wb:=w.bef i;have f1:IntKind.i64.wrap ((i:Int)+1)=((i+1:Nat):Int):=by rw[wrap_i64]<;>omega
   have hbef:p.bef (i+1)=s.en:=by simp[Pp.bef,hs]
   have no:p.segAt i s=false->p.valid=false:=by
    intro h;rw[hv,Bool.eq_false_iff];intro h';rw[segsOk_iff.1 h' i s hs]at h;cases h
   have nx:p.segAt i s=true->∀(j:Nat) (s':Sg),j<i+1->p.segs[j]?=some s'->p.segAt j s'=true:=by
    intro h j u hj hu;rcases Nat.lt_or_ge j i with hji|hji
    ·exact hp j u hji hu
    ·have:j=i:=by omega
     subst this;rw[hs]at hu;injection hu with hu;rw[<-hu];exact h
   have T:=qb5 (qd9 (l:=[some ⟨8,[s.v],false,true⟩]) hH0);have hH1:H++[some ⟨2,[p.v],false,true⟩] <+: H'++[some ⟨8,[s.v],false,true⟩]:=qd9 hH;simp only[Sg.v,Pp.v,ivs,sgs]at T hH1;rcases i with _|k
   ·simp[qfk,h27,h28,h29,hlt,hs'];repeat' first
     | (refine qaa rfl rfl rfl (qcf s.fr ws.fr.len ws.fr.li) ?_;simp)
     | (refine qaa rfl rfl rfl (qcf s.to ws.to.len ws.to.li) ?_;simp)
     | (refine qaa rfl rfl rfl (qnx s.fr s.to ws.fr ws.to) ?_;simp[ivs,h3])
     | (refine qaa rfl rfl rfl (qpe s.en s.tube ws.en ws.tube) ?_;simp[h4'])
     | (refine qaa rfl rfl rfl (qpe _ s.tube wb ws.tube) ?_;simp[T,h1,h27,h28,h29,h3])
     |refine And.intro ?_ ?_
     |intro _
    all_goals first
     | (apply no;simp[Pp.segAt, *];done)
     | (apply no;simp[Pp.segAt, *];omega)
     |exact T
     | (exfalso;omega)
     |exact hH1
     |rfl
     | (rw[wrap_i64]<;>omega)
     | (simp[Pp.bef,hs];done)
     | (refine nx ?_;simp[Pp.segAt,Pp.lnk, *];done)
     | (refine nx ?_;simp[Pp.segAt,Pp.lnk, *];omega)
     | (refine nx ?_ _ _ ?_ (by assumption)
        ·simp[Pp.segAt,Pp.lnk, *];omega
        ·omega)
     |trace_state
   ·have⟨q,hq⟩:∃q,p.segs[k]?=some q:=⟨_,List.getElem?_eq_getElem (by omega)⟩
    have wq:=w.at hq;have f2:IntKind.i64.wrap (k:Int)=k:=by rw[wrap_i64]<;>omega
    have f3:(0:Int)<(k:Int)+1:=by omega
    have f4:(0:Int)<=k:=by omega
    have f5:(0:Int)<=(k:Int)+1:=by omega
    simp[qfk,h27,h28,h29,hlt,hs',f5];repeat' first
     | (refine qaa rfl rfl rfl (qcf s.fr ws.fr.len ws.fr.li) ?_;simp)
     | (refine qaa rfl rfl rfl (qcf s.to ws.to.len ws.to.li) ?_;simp)
     | (refine qaa rfl rfl rfl (qnx s.fr s.to ws.fr ws.to) ?_;simp[ivs,sgs,f3,f2,f4,hq,h1,h3,hB])
     | (refine qaa rfl rfl rfl (qei s.fr q.to ws.fr wq.to) ?_;simp)
     | (refine qaa rfl rfl rfl (qpe s.en s.tube ws.en ws.tube) ?_;simp[h4'])
     | (refine qaa rfl rfl rfl (qpe _ s.tube wb ws.tube) ?_;simp[T,h1,h27,h28,h29,h3])
     |refine And.intro ?_ ?_
     |intro _
    all_goals first
     | (apply no;simp[Pp.segAt,Pp.lnk, *];done)
     | (apply no;simp[Pp.segAt,Pp.lnk, *];omega)
     |exact T
     | (exfalso;omega)
     |exact hH1
     |rfl
     | (rw[wrap_i64]<;>omega)
     | (simp[Pp.bef,hs];done)
     | (refine nx ?_;simp[Pp.segAt,Pp.lnk, *];done)
     | (refine nx ?_;simp[Pp.segAt,Pp.lnk, *];omega)
     | (refine nx ?_ _ _ ?_ (by assumption)
        ·simp[Pp.segAt,Pp.lnk, *];omega
        ·omega)
     |trace_state
  ·have hin:i=p.segs.length:=by omega
   subst hin;have:p.valid=true:=by
    rw[hv,segsOk_iff];intro j s hs;exact hp j s (List.getElem?_eq_some_iff.1 hs).1 hs
   simp[qfk,h28,h29,this,qb5 hH0]
end Go.Abs.W
namespace Go.Abs.W
theorem q0i {α:Type}{H l:List α}{b:Nat}{x:α}(h:H[b]?=some x):(H++l)[b]?=some x:=by
 rw[List.getElem?_append_left (List.getElem?_eq_some_iff.1 h).1];exact h
theorem q5m {α:Type}{H H':List α}{b:Nat}{x:α}(hp:H <+: H')(h:H[b]?=some x):H'[b]?=some x:=by
 obtain⟨l,rfl⟩:=hp;exact q0i h
theorem qaoe {H:Heap}{b:Nat}(s:Sg)(t:Dy)(ws:s.W)(wt:t.W)(hb:H[b]?=some (some ⟨3,[t.v],false,true⟩)):Ev prog (.call qvd [s.v,.ptr b 0 0] H) (.ret (.bool (!decide (s.to.cmp t<0))) H):=by
 refine qjn rfl ?_;have hb':∀l:Heap,(H++l)[b]?=some (some ⟨3,[t.v],false,true⟩):=fun l=>q0i hb
 simp[hb'];refine qaa rfl rfl rfl (qnx s.to t ws.to wt) ?_;simp
theorem qaof {H:Heap}{b:Nat}(s:Sg)(t:Dy)(ws:s.W)(wt:t.W)(hb:H[b]?=some (some ⟨3,[t.v],false,true⟩)):Cb H qvd [.ptr b 0 0] [s.v] (.bool (!decide (s.to.cmp t<0))):=
 fun _ hp=>⟨rfl,qaoe s t ws wt (q5m hp hb)⟩
def Pp.num (p:Pp)(t:Dy):Nat:=(p.segs.findIdx? fun s=>!decide (s.to.cmp t<0)).getD 0
def Pp.at (p:Pp)(t:Dy):List Iv:=match p.segs[0]?,p.segs[p.num t]? with
 |some s,some g=>if t.cmp s.fr=0 then p.start else if t.cmp g.to<0 then g.tube else g.en
 |_,_=>[]
theorem qzc {p:Pp}{t:Dy}(h:p.during t=true):0<p.segs.length/\∃i,(p.segs.findIdx? fun s=>!decide (s.to.cmp t<0))=some i:=by
 unfold Pp.during at h;split at h
 ·rename_i s z hs hz;refine⟨(List.getElem?_eq_some_iff.1 hs).1,?_⟩;simp only[Bool.and_eq_true]at h;cases hq:p.segs.findIdx? fun s=>!decide (s.to.cmp t<0)with
  |some i=>exact⟨i,rfl⟩
  |none=>
   rw[List.findIdx?_eq_none_iff]at hq;have:=hq z (List.mem_of_getElem? hz);rw[h.2]at this;cases this
 ·cases h
def Pp.atE (p:Pp)(t:Dy):Int:=if p.valid&&t.valid then(if p.during t then 0 else 2)else 1
def Pp.atR (p:Pp)(t:Dy):List Iv:=if p.atE t=0 then p.at t else []
attribute [local simp] qby
@[simp] theorem qald {n k:Nat}:(n+k<n)=False:=by simp
def cutS (t:Dy):List Sg->List Sg
 | []=>[]
 |s :: l=>if t.cmp s.to<0 then(if s.fr.cmp t<0 then [{ s with to:=t,en:=s.tube }]else [])else s :: cutS t l
def Pp.cutR (p:Pp)(t:Dy):Pp:=if p.atE t=0 then⟨p.start,cutS t p.segs⟩else⟨[],[]⟩
theorem q8j {t:Dy}:∀{l:List Sg},(∀s ∈ l,¬t.cmp s.to<0)->cutS t l=l
 | [],_=>rfl
 |s :: l,h=>by rw[cutS,if_neg (h s (by simp)),q8j fun x hx=>h x (by simp[hx])]
theorem qaec {t:Dy}{s:Sg}:∀{l:List Sg} {i:Nat},(∀j u,j<i->l[j]?=some u->¬t.cmp u.to<0)->l[i]?=some s->t.cmp s.to<0 ->
 cutS t l=l.take i++(if s.fr.cmp t<0 then [{ s with to:=t,en:=s.tube }]else [])
 | [],i,_,hs,_=>by simp at hs
 |u :: l,0,_,hs,ht=>by
  simp at hs;subst hs;rw[cutS,if_pos ht];simp
 |u :: l,i+1,h,hs,ht=>by
  rw[cutS,if_neg (h 0 u (by omega) rfl),qaec (fun j v hj hv=>h (j+1) v (Nat.succ_lt_succ hj) (by simpa using hv)) (by simpa using hs) ht];rfl
theorem qzx {α:Type}{l:List α}{i:Nat}{x:α}(h:i<l.length):(l.set i x).take (i+1)=l.take i++[x]:=by
 rw[List.take_add_one];simp[h,List.take_set_of_le]
attribute [local simp] qby
theorem q6l (p:Pp):CQ prog qnk [p.v,.int .i64 0] (ivs p.start):=by
 refine qaf rfl fun H=>?_
 simp
theorem q6k (p:Pp)(k:Nat)(s:Sg)(hk:k<=100000000)(h:p.segs[k]?=some s):CQ prog qnk [p.v,.int .i64 ((k:Int)+1)] (ivs s.en):=by
 refine qaf rfl fun H=>?_
 have e1:IntKind.i64.wrap (k:Int)=k:=by rw[wrap_i64]<;>omega
 have e2:¬(k:Int)+1=0:=by omega
 simp[sgs,e1,e2,h]
theorem Pp.validSegs {p:Pp}(h:p.valid=true):p.segsOk=true:=by simp[Pp.valid]at h;exact h.2
theorem qagf {p:Pp}{i:Nat}{s:Sg}(w:s.W)(h:p.segAt i s=true):s.fr.Ok/\s.to.Ok:=by
 simp only[Pp.segAt,Bool.and_eq_true]at h;exact⟨Dy.Ok.of w.fr.li h.1.1.1.1.1.1,Dy.Ok.of w.to.li h.1.1.1.1.1.2⟩
set_option maxHeartbeats 8000000 in
theorem qaai (p:Pp)(w:p.W):CQ prog qvo [p.v] (.bool p.valid):=by
 refine qaf rfl fun H=>?_
 simp[ivs,sgs];have hst:=w.start.len;have hse:=w.len;refine qaa rfl rfl rfl (qw3 p.start w.start) ?_;cases hb:boxOk p.start
 ·simp[Pp.valid,hb]
 rcases Nat.lt_or_ge 4 p.start.length with h4|h4
 ·have e1:(4:Int)<p.start.length:=by omega
  simp[Pp.valid,e1];intro _ h;omega
 rcases Nat.lt_or_ge 1000 p.segs.length with h5|h5
 ·have e1:¬(4:Int)<p.start.length:=by omega
  have e2:(1000:Int)<p.segs.length:=by omega
  simp[Pp.valid,e1,e2];intro _ _ h;omega
 have e1:¬(4:Int)<p.start.length:=by omega
 have e2:¬(1000:Int)<p.segs.length:=by omega
 simp[e1,e2];refine WK_up (fun i E H'=>H++[some ⟨2,[p.v],false,true⟩] <+: H'/\E 1=.ptr H.length 0 0/\E 3=.int .i64 i /\
  (∀j s,j<i->p.segs[j]?=some s->p.segAt j s=true)) p.segs.length ?_ ?_
 ·simp[ivs,sgs]
 ·rintro i E H' hi ⟨hH,h1,h3,hp⟩;have hH0:H <+: H':=(List.prefix_append _ _).trans hH;have hB:∀l:Heap,(H'++l)[H.length]?=some (some ⟨2,[p.v],false,true⟩):=by
   intro l;obtain⟨t,rfl⟩:=hH;simp
  have hB0:H'[H.length]?=some (some ⟨2,[p.v],false,true⟩):=by have:=hB [];rwa[List.append_nil]at this
  have hv:p.valid=p.segsOk:=by simp[Pp.valid,hb,h4,h5]
  rcases Nat.lt_or_ge i p.segs.length with hlt|hge
  ·have⟨s,hs⟩:∃s,p.segs[i]?=some s:=⟨_,List.getElem?_eq_getElem hlt⟩
   have hs':p.segs[i]=s:=by rw[List.getElem?_eq_getElem hlt]at hs;injection hs
   have ws:=w.at hs;have wb:=w.bef i;have f1:IntKind.i64.wrap ((i:Int)+1)=((i+1:Nat):Int):=by rw[wrap_i64]<;>omega
   have no:p.segAt i s=false->p.valid=false:=by
    intro h;rw[hv,Bool.eq_false_iff];intro h';rw[segsOk_iff.1 h' i s hs]at h;cases h
   have nx:p.segAt i s=true->∀(j:Nat) (s':Sg),j<i+1->p.segs[j]?=some s'->p.segAt j s'=true:=by
    intro h j u hj hu;rcases Nat.lt_or_ge j i with hji|hji
    ·exact hp j u hji hu
    ·have:j=i:=by omega
     subst this;rw[hs]at hu;injection hu with hu;rw[<-hu];exact h
   have T:=qb5 (qd9 (l:=[some ⟨8,[s.v],false,true⟩]) hH0);have hH1:H++[some ⟨2,[p.v],false,true⟩] <+: H'++[some ⟨8,[s.v],false,true⟩]:=qd9 hH;have bI:∀a b:List Iv,qrh a b=(boxOk a&&boxOk b&&boxIn a b):=by
    intro a b;simp[qrh,boxIn,Bool.and_assoc]
   simp only[Sg.v,Pp.v,ivs,sgs]at T hH1;rcases i with _|k
   ·simp[qdj,h1,h3,hlt,hs',hB0,sgs];repeat' first
     | (refine qaa rfl rfl rfl (qlt s.fr ws.fr) ?_;simp)
     | (refine qaa rfl rfl rfl (qlt s.to ws.to) ?_;simp)
     | (refine qaa rfl rfl rfl (qqo s.fr s.to (Dy.Ok.of ws.fr.li (by assumption)) (Dy.Ok.of ws.to.li (by assumption))) ?_;simp[ivs,h3])
     | (refine qaa rfl rfl rfl (qw3 s.tube ws.tube) ?_;simp)
     | (refine qaa rfl rfl rfl (qw3 s.en ws.en) ?_;simp[ivs,h1,hB])
     | (refine qaa rfl rfl rfl (qnf s.en s.tube ws.en ws.tube) ?_;simp[ivs,h1,h3,hB])
     | (refine qaa rfl rfl rfl (q6l p) ?_;simp[ivs])
     | (refine qaa rfl rfl rfl (qnf p.start s.tube w.start ws.tube) ?_;simp[h1,h3,T])
     |refine And.intro ?_ ?_
     |intro _
    all_goals first
     | (apply no;simp[Pp.segAt,Pp.bef, *];done)
     | (apply no;simp[Pp.segAt,Pp.bef, *];omega)
     |exact T
     | (exfalso;omega)
     |exact hH1
     |rfl
     | (rw[wrap_i64]<;>omega)
     | (refine nx ?_;simp[Pp.segAt,Pp.lnk,bI,Pp.bef, *];done)
     | (refine nx ?_ _ _ ?_ (by assumption)
        ·simp[Pp.segAt,Pp.lnk,Pp.bef, *];omega
        ·omega)
     |trace_state
   ·have⟨q,hq⟩:∃q,p.segs[k]?=some q:=⟨_,List.getElem?_eq_getElem (by omega)⟩
    have wq:=w.at hq;have qa:=hp k q (by omega) hq;have oq:=(qagf wq qa).2;have hL:s.fr.valid=true->(s.fr.cmp q.to=0↔s.fr=q.to):=fun h=>q1n (Dy.Ok.of ws.fr.li h) oq
    have bq:boxOk q.en=true:=by
     simp[Pp.segAt,bI]at qa;exact qa.1.2.1.1
    have mk:s.fr.valid=true->s.to.valid=true->s.fr.cmp s.to<0->s.fr=q.to->boxOk s.tube=true->boxOk s.en=true->(s.tube.length:Int)=p.start.length->boxIn s.en s.tube=true->boxIn q.en s.tube=true->p.segAt (k+1) s=true:=by
     intro g1 g2 g3 g4 g5 g6 g7 g8 g9;have g4':=(hL g1).2 g4;have g7':s.tube.length=p.start.length:=by omega
     simp[Pp.segAt,Pp.lnk,bI,Pp.bef,hq,g1,g2,g3,g4',g5,g6,g7',g8,g9,bq]
    have f2:IntKind.i64.wrap (k:Int)=k:=by rw[wrap_i64]<;>omega
    have f3:(0:Int)<(k:Int)+1:=by omega
    have f4:(0:Int)<=k:=by omega
    have f5:(0:Int)<=(k:Int)+1:=by omega
    have f6:(k:Int)+1<p.segs.length:=by omega
    simp[qdj,h1,h3,hlt,hs',hB0,sgs,f5,f6];repeat' first
     | (refine qaa rfl rfl rfl (qlt s.fr ws.fr) ?_;simp)
     | (refine qaa rfl rfl rfl (qlt s.to ws.to) ?_;simp)
     | (refine qaa rfl rfl rfl (qqo s.fr s.to (Dy.Ok.of ws.fr.li (by assumption)) (Dy.Ok.of ws.to.li (by assumption))) ?_;simp[ivs,sgs,f2,f3,f4,hq,h1,h3,hB])
     | (refine qaa rfl rfl rfl (qw2 s.fr q.to ws.fr wq.to) ?_;simp)
     | (refine qaa rfl rfl rfl (qw3 s.tube ws.tube) ?_;simp)
     | (refine qaa rfl rfl rfl (qw3 s.en ws.en) ?_;simp[ivs,h1,hB])
     | (refine qaa rfl rfl rfl (qnf s.en s.tube ws.en ws.tube) ?_;simp[ivs,h1,h3,hB])
     | (refine qaa rfl rfl rfl (q6k p k q (by omega) hq) ?_;simp[ivs])
     | (refine qaa rfl rfl rfl (qnf q.en s.tube wq.en ws.tube) ?_;simp[h1,h3,T])
     |refine And.intro ?_ ?_
     |intro _
    all_goals first
     | (apply no;simp[Pp.segAt,Pp.lnk,Pp.bef, *];done)
     | (apply no;simp[Pp.segAt,Pp.lnk,Pp.bef, *];omega)
     |exact T
     | (exfalso;omega)
     |exact hH1
     |rfl
     | (rw[wrap_i64]<;>omega)
     | (refine nx ?_;simp[Pp.segAt,Pp.lnk,bI,Pp.bef, *];done)
     | (refine nx ?_ _ _ ?_ (by assumption)
        ·simp[Pp.segAt,Pp.lnk,Pp.bef, *];omega
        ·omega)
     |exact nx (mk (by assumption) (by assumption) (by assumption) (by assumption) (by assumption) (by assumption) (by assumption) (by assumption) (by assumption)) _ _ (by omega) (by assumption)
     |trace_state
  ·have hin:i=p.segs.length:=by omega
   subst hin;have:p.valid=true:=by
    rw[hv,segsOk_iff];intro j s hs;exact hp j s (List.getElem?_eq_some_iff.1 hs).1 hs
   simp[qdj,h1,h3,hB0,sgs,this,qb5 hH0]
attribute [local simp] qby
@[simp] theorem qagy {n:Nat}{l:List Nat}:(lim l).lowB n=true:=rfl
@[simp] theorem qapl {n:Nat}{l:List Iv}:(ivs l).lowB n=true:=rfl
@[simp] theorem qapk {n:Nat}{l:List Sg}:(sgs l).lowB n=true:=rfl
@[simp] theorem qapu {n:Nat}{l:List V}:(V.sl l).lowB n=true:=rfl
@[simp] theorem qacm {n:Nat}{b:Bool}:(V.bool b).lowB n=true:=rfl
@[simp] theorem qagz {n:Nat}{k:IntKind}{i:Int}:(V.int k i).lowB n=true:=rfl
theorem qao2 (n:Nat)(hn:n<2147483648):CQ prog q02 [.int .i64 n] (Dy.of false n 0).v:=by
 refine qaf rfl fun H=>?_
 have e1:IntKind.u64.wrap (n:Int)=n:=qaj _ (by omega);have e2:¬(n:Int)<0:=by omega
 have e3:=qhz n (by omega);rw[Nat.mod_eq_of_lt (by omega)]at e3;have e4:IntKind.u32.wrap (n:Int)=n:=qaw _ (by omega);have e5:qbf .shr .u64 (n:Int) 32=some (.int .u64 ((n/2^32:Nat):Int)):=shr64 n 32 (by omega);rw[Nat.div_eq_of_lt (by omega)]at e5;have e6:IntKind.u32.wrap 0=0:=by decide
 simp[e1,e2,e3,e4,e5,e6];refine qam rfl rfl (H1:=H++[some ⟨3,[.agg [.bool false,.nil,.int .i64 0]],false,true⟩,some ⟨1,[.int .u32 n,.int .u32 0],true,false⟩]) (vs:=[.bool false,lim [n,0],.int .i64 0]) (by simp[prep,frzVs,frzV];rfl) (Of_cq false [n,0] 0 (by simp) (by intro x hx;simp at hx;omega) (by omega) (by omega)) ?_;have:natV [n,0]=n:=by simp[natV]
 rw[this];simp
def d0 : Dy:=⟨false,[],0⟩
def d1 : Dy:=⟨false,[1],0⟩
def d2 : Dy:=⟨false,[1],1⟩
def d3 : Dy:=⟨false,[3],0⟩
theorem ql4 {n:Nat}(h:n<4294967296)(h0:n≠0):qae n=[n]:=by
 rw[qeu h0,Nat.mod_eq_of_lt h,Nat.div_eq_of_lt h,qa4]
theorem of_0 : Dy.of false 0 0=d0:=rfl
theorem of_1 : Dy.of false 1 0=d1:=by simp[Dy.of,d1,qyd,ql4]
theorem of_2 : Dy.of false 2 0=d2:=by
 have:tz 2=1:=by rw[q4w (by omega) (by omega)];simp[qyd]
 simp[Dy.of,d2,this,ql4]
theorem of_3 : Dy.of false 3 0=d3:=by simp[Dy.of,d3,qyd,ql4]
theorem n_cq (n:Nat)(hn:n<2147483648):CQ prog q5w [.int .i64 n] (Dy.of false n 0).v:=by
 refine qaf rfl fun H=>?_
 simp;refine qaa rfl rfl rfl (qao2 n hn) ?_;simp
theorem of_cq (a b:Nat)(ha:a<2147483648)(hb:b<2147483648):CQ prog q3e [.int .i64 a,.int .i64 b] (ivs [⟨Dy.of false a 0,Dy.of false b 0,false⟩]):=by
 refine qaf rfl fun H=>?_
 simp;refine qaa rfl rfl rfl (n_cq a ha) ?_;simp;refine qaa rfl rfl rfl (n_cq b hb) ?_;simp[ivs]
def iv (a b:Dy):List Iv:=[⟨a,b,false⟩]
def exP : Pp:=⟨iv d0 d0,[⟨d0,d1,iv d0 d2,iv d1 d1⟩,⟨d1,d3,iv d1 d3,iv d3 d3⟩]⟩
theorem q92 : CQ prog qr3 [] exP.v:=by
 refine qaf rfl fun H=>?_
 simp;have o00:=of_cq 0 0 (by omega) (by omega);have o02:=of_cq 0 2 (by omega) (by omega);have o11:=of_cq 1 1 (by omega) (by omega);have o13:=of_cq 1 3 (by omega) (by omega);have o33:=of_cq 3 3 (by omega) (by omega);have n0:=n_cq 0 (by omega);have n1:=n_cq 1 (by omega);have n3:=n_cq 3 (by omega);rw[of_0]at n0 o00 o02;rw[of_1]at n1 o11 o13;rw[of_3]at n3 o13 o33;rw[of_2]at o02;refine zq o00 ?_;simp;refine zq n0 ?_;simp;refine zq n1 ?_;simp;refine zq o02 ?_;simp;refine zq o11 ?_;simp;refine zq n1 ?_;simp;refine zq n3 ?_;simp;refine zq o13 ?_;simp;refine zq o33 ?_;simp[exP,sgs,iv]
theorem d0_W : d0.W:=⟨by intro x hx;simp[d0]at hx,by simp[d0]⟩
theorem d1_W : d1.W:=⟨by intro x hx;simp[d1]at hx;omega,by simp[d1]⟩
theorem d2_W : d2.W:=⟨by intro x hx;simp[d2]at hx;omega,by simp[d2]⟩
theorem d3_W : d3.W:=⟨by intro x hx;simp[d3]at hx;omega,by simp[d3]⟩
theorem iv_W {a b:Dy}(ha:a.W)(hb:b.W):BxW (iv a b):=⟨by simp[iv],by intro x hx;simp[iv]at hx;subst hx;exact⟨ha,hb⟩⟩
theorem ex_W : exP.W:=by
 refine⟨iv_W d0_W d0_W,by simp[exP],fun s hs=>?_⟩;simp[exP]at hs;rcases hs with rfl|rfl
 ·exact⟨d0_W,d1_W,iv_W d0_W d2_W,iv_W d1_W d1_W⟩
 ·exact⟨d1_W,d3_W,iv_W d1_W d3_W,iv_W d3_W d3_W⟩
theorem ex_e1 : exP.atE d1=0:=by decide +kernel
theorem ex_e2 : exP.atE d2=0:=by decide +kernel
theorem ex_a1 : exP.at d1=iv d1 d1:=by decide +kernel
theorem ex_a2 : exP.at d2=iv d1 d3:=by decide +kernel
theorem ex_c2 : cutS d2 exP.segs=[⟨d0,d1,iv d0 d2,iv d1 d1⟩,⟨d1,d2,iv d1 d3,iv d1 d3⟩]:=by decide +kernel
theorem ex_v : exP.valid=true:=by decide +kernel
def Dy.long (d:Dy):Bool:=decide (20<d.m.length)
def wideB (b:List Iv):Bool:=decide (10<b.length) ||b.any fun x=>x.lo.long ||x.hi.long
def Sg.great (s:Sg):Bool:=s.fr.long ||s.to.long ||wideB s.tube ||wideB s.en
def Pp.great (p:Pp):Bool:=decide (30<p.segs.length) ||wideB p.start ||p.segs.any Sg.great
theorem qt1 (d:Dy):CQ prog qxy [d.v] (.bool d.long):=by
 refine qaf rfl fun H=>?_
 simp[lim,Dy.long];omega
theorem qafp (x:Iv):CQ prog qtg [x.v] (.bool (x.lo.long ||x.hi.long)):=by
 refine qaf rfl fun H=>?_
 simp;repeat' first
  | (refine qaa rfl rfl rfl (qt1 x.lo) ?_;simp)
  | (refine qaa rfl rfl rfl (qt1 x.hi) ?_;simp)
  |refine And.intro ?_ ?_
  |intro _
 all_goals first| (simp[*];done)|grind
theorem q4u (b:List Iv)(hb:b.length<=9223372036854775807):CQ prog qxx [ivs b] (.bool (wideB b)):=by
 refine qaf rfl fun H=>?_
 have e:(10:Int)<b.length↔10<b.length:=by omega
 simp[ivs];repeat' first
  | (refine WL_ev rfl rfl rfl (qrm b hb fun x hx=>Cb_of (fun _=>rfl) (qafp x)) ?_;simp)
  |refine And.intro ?_ ?_
  |intro _
 all_goals first| (simp[wideB, *];done)| (simp[wideB];omega)| (simp[wideB];grind)
theorem q9s (s:Sg)(h1:s.tube.length<=9223372036854775807)(h2:s.en.length<=9223372036854775807):CQ prog qp2 [s.v] (.bool s.great):=by
 refine qaf rfl fun H=>?_
 simp;repeat' first
  | (refine qaa rfl rfl rfl (qt1 s.fr) ?_;simp)
  | (refine qaa rfl rfl rfl (qt1 s.to) ?_;simp)
  | (refine qaa rfl rfl rfl (q4u s.tube h1) ?_;simp)
  | (refine qaa rfl rfl rfl (q4u s.en h2) ?_;simp)
  |refine And.intro ?_ ?_
  |intro _
 all_goals(simp[Sg.great, *])
structure Pp.L (p:Pp):Prop where
 start:p.start.length<=9223372036854775807
 segs:p.segs.length<=9223372036854775807
 all:∀s ∈ p.segs,s.tube.length<=9223372036854775807/\s.en.length<=9223372036854775807
theorem qac9 (p:Pp)(w:p.L):CQ prog qr2 [p.v] (.bool p.great):=by
 refine qaf rfl fun H=>?_
 have e:(30:Int)<p.segs.length↔30<p.segs.length:=by omega
 simp[sgs];repeat' first
  | (refine qaa rfl rfl rfl (q4u p.start w.start) ?_;simp)
  | (refine WL_ev rfl rfl rfl (q1x p.segs w.segs fun x hx=>Cb_of (fun _=>rfl) (q9s x (w.all x hx).1 (w.all x hx).2)) ?_;simp)
  |refine And.intro ?_ ?_
  |intro _
 all_goals first| (simp[Pp.great, *];done)| (simp[Pp.great];omega)| (simp[Pp.great];grind)
theorem qag9 (l:List Pp)(hl:l.length<=9223372036854775807)(w:∀p ∈ l,p.L):CQ prog qv0 [pps l] (.bool (l.any Pp.great)):=by
 refine qaf rfl fun H=>?_
 simp;refine WL_ev rfl rfl rfl (q1y l hl fun x hx=>Cb_of (fun _=>rfl) (qac9 x (w x hx))) ?_;simp
def Pp.cut (p:Pp)(t:Dy):Pp:=⟨p.start,cutS t p.segs⟩
structure Sg.T (s:Sg):Prop where
 fr:s.fr.T
 to:s.to.T
 tube:BxT s.tube
 en:BxT s.en
structure Pp.T (p:Pp):Prop where
 start:BxT p.start
 len:p.segs.length<=9223372036854775807
 all:∀s ∈ p.segs,s.T
theorem Dy.T.W {d:Dy}(h:d.T)(hl:d.long=false):d.W:=⟨h.li,by simp[Dy.long]at hl;omega⟩
theorem BxT.W {l:List Iv}(h:BxT l)(hl:wideB l=false):BxW l:=by
 simp[wideB]at hl;refine⟨by omega,fun x hx=>?_⟩;have:=hl.2 x hx;exact⟨(h.all x hx).lo.W this.1,(h.all x hx).hi.W this.2⟩
theorem Pp.T.W {p:Pp}(h:p.T)(hl:p.great=false):p.W:=by
 simp[Pp.great]at hl;obtain⟨⟨h1,h2⟩,h3⟩:=hl;refine⟨h.start.W h2,by omega,fun s hs=>?_⟩;have:=h3 s hs;simp[Sg.great]at this;obtain⟨⟨⟨g1,g2⟩,g3⟩,g4⟩:=this;have t:=h.all s hs;exact⟨t.fr.W g1,t.to.W g2,t.tube.W g3,t.en.W g4⟩
theorem Pp.T.L {p:Pp}(h:p.T):p.L:=⟨h.start.len,h.len,fun s hs=>⟨(h.all s hs).tube.len,(h.all s hs).en.len⟩⟩
end Go.Abs.W
