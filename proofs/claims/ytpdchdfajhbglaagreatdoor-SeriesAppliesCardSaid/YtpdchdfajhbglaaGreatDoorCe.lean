/- Parts of the proof: FpCn, FpCo. -/
import Derived.Test.YtpdchdfajhbglaaGreatDoorCd
import Derived.Test.YtpdchdfajhbglaaGreatDoorXc
namespace Go.Abs.W
def Fx.int (a:Fx):Int:=if a.neg then -(a.n:Int)else a.n
theorem qr8 : (nD (-1)).val=-pw 16384/\(nD 1).val=pw 16384:=by
 refine⟨?_,?_⟩
 ·rw[qrb];omega
 ·rw[qrb];omega
structure InU (y:Iv):Prop where
 ol:y.lo.Ok
 oh:y.hi.Ok
 al:y.all=false
 lo:-pw 16384<=y.lo.val
 le:y.lo.val<=y.hi.val
 hi:y.hi.val<=pw 16384
theorem qv1 : InU unitI:=by
 obtain⟨u1,u2⟩:=qr8;have p:=qa7 16384;exact⟨nDm1,nD1,rfl,by show _<=(nD (-1)).val;omega,by show(nD (-1)).val<=(nD 1).val;omega,by show(nD 1).val<=_;omega⟩
theorem qaet {C y:Iv}(w:C.W)(h:C.meet unitI=some y):InU y:=by
 obtain⟨u1,u2⟩:=qr8;unfold Iv.meet at h;split at h
 ·rename_i hv;simp only[Bool.and_eq_true]at hv;split at h
  ·injection h with h;subst h;exact qv1
  ·rename_i ha;rw[if_neg (show ¬unitI.all=true by decide)]at h;split at h
   ·cases h
   ·rename_i hc;injection h with h
    subst h;obtain⟨ol,oh⟩:=qat w (show C.known=true by simp[Iv.known,hv.1,ha]);have a1:(C.lo.hi2 unitI.lo).Ok:=qae6 ol nDm1;have a2:(C.hi.lo2 unitI.hi).Ok:=qaey oh nD1;rw[qri a1 a2]at hc;have hle:(C.lo.hi2 unitI.lo).val<=(C.hi.lo2 unitI.hi).val:=cmpI_le.1 (by omega);refine⟨a1,a2,rfl,?_,hle,?_⟩
    ·show _<=(C.lo.hi2 unitI.lo).val;rw[qnl ol (show unitI.lo.Ok from nDm1)];show _<=max C.lo.val (nD (-1)).val;omega
    ·show(C.hi.lo2 unitI.hi).val<=_;rw[qnj oh (show unitI.hi.Ok from nD1)];show min C.hi.val (nD 1).val<=_;omega
 ·cases h
theorem InU.put {y:Iv}(q:InU y)(s t:Bool):InU ⟨if s=true then nD (-1)else y.lo,if t=true then nD 1 else y.hi,y.all⟩:=by
 obtain⟨u1,u2⟩:=qr8;have p0:=qa7 16384;obtain⟨a,b,c,d,e,f⟩:=q;cases s<;>cases t<;>simp only[if_true,Bool.false_eq_true,if_false]
 ·exact⟨a,b,c,d,e,f⟩
 ·exact⟨a,nD1,c,d,by simp only[];omega,by simp only[];omega⟩
 ·exact⟨nDm1,b,c,by simp only[];omega,by simp only[];omega,f⟩
 ·exact⟨nDm1,nD1,c,by simp only[];omega,by simp only[];omega,by simp only[];omega⟩
theorem qajq {x:Iv}{c:Bool}{p:Int}(w:x.W)(h:precB p=true)(k:x.known=true):InU (bothI x c p):=by
 obtain⟨ol,oh⟩:=qat w k;obtain⟨u1,u2⟩:=qr8;have p0:=qa7 16384;unfold bothI;rw[h,k,if_pos (show(true&&true)=true from rfl)];split
 ·exact qv1
 ·split
  ·exact qv1
  ·split
   ·exact qv1
   ·rename_i y hy;have q:=qaet ((qvo ol.w).hull (qvo oh.w)) hy;split
    ·exact q
    ·exact q.put _ _
theorem qak7 {x:Iv}{c:Bool}{p:Int}(w:x.W):(bothI x c p).W:=by
 by_cases h:(precB p&&x.known)=true
 ·simp only[Bool.and_eq_true]at h;have q:=qajq (c:=c) w h.1 h.2;exact⟨q.ol.w,q.oh.w⟩
 ·unfold bothI;rw[if_neg h];exact Iv.whole_W
end Go.Abs.W
