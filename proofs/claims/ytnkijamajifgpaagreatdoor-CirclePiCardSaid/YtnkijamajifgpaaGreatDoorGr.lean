/- Parts of the proof: FpRead0. -/
import Derived.Test.YtnkijamajifgpaaGreatDoorFd
import Derived.Test.YtnkijamajifgpaaGreatDoorFe
namespace Go.Abs.W
open Go.ChangeShapes Go.RowKit
structure Dy.T (d : Dy) : Prop where
 li : Li d.m
 len : d.m.length ≤ 9223372036854775807
structure Iv.T (x : Iv) : Prop where
 lo : x.lo.T
 hi : x.hi.T
structure BxT (l : List Iv) : Prop where
 len : l.length ≤ 9223372036854775807
 all : ∀ x ∈ l, x.T
section
variable {H : Type} {enc : TypeId × Value → H} {P : Program} {w : World} {gid : Gid}
end
end Go.Abs.W
