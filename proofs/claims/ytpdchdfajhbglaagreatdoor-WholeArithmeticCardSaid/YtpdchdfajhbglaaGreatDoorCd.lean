/- Parts of the proof: FpCm. -/
import Derived.Test.YtpdchdfajhbglaaGreatDoorCc
import Derived.Test.YtpdchdfajhbglaaGreatDoorHs
import Derived.Test.YtpdchdfajhbglaaGreatDoorHx
namespace Go.Abs.W
def z10 : Iv:=⟨Dy.zero,Dy.zero,false⟩
theorem z10_W : z10.W:=⟨Dy.zero_W,Dy.zero_W⟩
theorem qabn {p:Int}(c:Bool)(h:precB p=true):bothI z10 c p=if c then Iv.pt (nD 1)else z10:=by
 unfold bothI;rw[h,show z10.known=true by decide +kernel];rw[if_pos (show(true&&true)=true from rfl),if_neg (show ¬(100<z10.lo.top\/100<z10.hi.top) by decide),if_neg (show ¬((z10.wid 64).2≠0\/0<=(z10.wid 64).1.cmp (nD 7)) by decide +kernel)];cases c
 ·rw[show qcm z10.lo false p.toNat=z10 from rfl,show qcm z10.hi false p.toNat=z10 from rfl,show(z10.hull z10).meet unitI=some z10 by decide +kernel];show(if z10.lo.cmp z10.hi=0 then z10 else _)=z10;rw[if_pos (show z10.lo.cmp z10.hi=0 by decide +kernel)]
 ·rw[show qcm z10.lo true p.toNat=Iv.pt (nD 1) from rfl,show qcm z10.hi true p.toNat=Iv.pt (nD 1) from rfl,show((Iv.pt (nD 1)).hull (Iv.pt (nD 1))).meet unitI=some (Iv.pt (nD 1)) by decide +kernel];show(if z10.lo.cmp z10.hi=0 then Iv.pt (nD 1)else _)=Iv.pt (nD 1);rw[if_pos (show z10.lo.cmp z10.hi=0 by decide +kernel)]
end Go.Abs.W
