/- Parts of the proof: FpCj, FpCl, FpCm, FpCn, FpCo, FpCp. -/
import Derived.Test.YtpdchdfajhbglaaGreatDoorCb
import Derived.Test.YtpdchdfajhbglaaGreatDoorHy
import Derived.Test.YtpdchdfajhbglaaGreatDoorHm
import Derived.Test.YtpdchdfajhbglaaGreatDoorHx
import Derived.Test.YtpdchdfajhbglaaGreatDoorXc
namespace Go.Abs.W
def Fx.int (a:Fx):Int:=if a.neg then -(a.n:Int)else a.n
theorem q88 : unitI.known=true:=by decide +kernel
theorem qnn : (nD (-1)).val=-pw 16384/\(nD 1).val=pw 16384:=by
 refine⟨?_,?_⟩
 ·rw[qpp];omega
 ·rw[qpp];omega
structure InU (y:Iv):Prop where
 ol:y.lo.Ok
 oh:y.hi.Ok
 al:y.all=false
 lo:-pw 16384<=y.lo.val
 le:y.lo.val<=y.hi.val
 hi:y.hi.val<=pw 16384
theorem InU.ins {y:Iv}(h:InU y):y.ins unitI=true:=by
 obtain⟨l,r,a⟩:=y;have ha:a=false:=h.al;subst ha;obtain⟨u1,u2⟩:=qnn;refine qac2 ⟨h.ol.w,h.oh.w⟩ qah4 (qcl h.ol h.oh h.le) q88 ?_ ?_
 ·show(nD (-1)).val<=_;rw[u1];exact h.lo
 ·show _<=(nD 1).val;rw[u2];exact h.hi
theorem qua : InU unitI:=by
 obtain⟨u1,u2⟩:=qnn;have p:=qax 16384;exact⟨nDm1,nD1,rfl,by show _<=(nD (-1)).val;omega,by show(nD (-1)).val<=(nD 1).val;omega,by show(nD 1).val<=_;omega⟩
theorem qack {C y:Iv}(w:C.W)(h:C.meet unitI=some y):InU y:=by
 obtain⟨u1,u2⟩:=qnn;unfold Iv.meet at h;split at h
 ·rename_i hv;simp only[Bool.and_eq_true]at hv;split at h
  ·injection h with h;subst h;exact qua
  ·rename_i ha;rw[if_neg (show ¬unitI.all=true by decide)]at h;split at h
   ·cases h
   ·rename_i hc;injection h with h
    subst h;obtain⟨ol,oh⟩:=qai w (show C.known=true by simp[Iv.known,hv.1,ha]);have a1:(C.lo.hi2 unitI.lo).Ok:=qac6 ol nDm1;have a2:(C.hi.lo2 unitI.hi).Ok:=qacr oh nD1;rw[qj1 a1 a2]at hc;have hle:(C.lo.hi2 unitI.lo).val<=(C.hi.lo2 unitI.hi).val:=cmpI_le.1 (by omega);refine⟨a1,a2,rfl,?_,hle,?_⟩
    ·show _<=(C.lo.hi2 unitI.lo).val;rw[ql6 ol (show unitI.lo.Ok from nDm1)];show _<=max C.lo.val (nD (-1)).val;omega
    ·show(C.hi.lo2 unitI.hi).val<=_;rw[ql3 oh (show unitI.hi.Ok from nD1)];show min C.hi.val (nD 1).val<=_;omega
 ·cases h
theorem InU.put {y:Iv}(q:InU y)(s t:Bool):InU ⟨if s=true then nD (-1)else y.lo,if t=true then nD 1 else y.hi,y.all⟩:=by
 obtain⟨u1,u2⟩:=qnn;have p0:=qax 16384;obtain⟨a,b,c,d,e,f⟩:=q;cases s<;>cases t<;>simp only[if_true,Bool.false_eq_true,if_false]
 ·exact⟨a,b,c,d,e,f⟩
 ·exact⟨a,nD1,c,d,by simp only[];omega,by simp only[];omega⟩
 ·exact⟨nDm1,b,c,by simp only[];omega,by simp only[];omega,f⟩
 ·exact⟨nDm1,nD1,c,by simp only[];omega,by simp only[];omega,by simp only[];omega⟩
theorem q8p {x:Iv}{c:Bool}{p:Int}(w:x.W)(h:precB p=true)(k:x.known=true):InU (bothI x c p):=by
 obtain⟨ol,oh⟩:=qai w k;obtain⟨u1,u2⟩:=qnn;have p0:=qax 16384;unfold bothI;rw[h,k,if_pos (show(true&&true)=true from rfl)];split
 ·exact qua
 ·split
  ·exact qua
  ·split
   ·exact qua
   ·rename_i y hy;have q:=qack ((qtz ol.w).hull (qtz oh.w)) hy;split
    ·exact q
    ·exact q.put _ _
theorem qaoa {x:Iv}{c:Bool}{p:Int}(w:x.W):(bothI x c p).W:=by
 by_cases h:(precB p&&x.known)=true
 ·simp only[Bool.and_eq_true]at h;have q:=q8p (c:=c) w h.1 h.2;exact⟨q.ol.w,q.oh.w⟩
 ·unfold bothI;rw[if_neg h];exact Iv.whole_W
end Go.Abs.W
