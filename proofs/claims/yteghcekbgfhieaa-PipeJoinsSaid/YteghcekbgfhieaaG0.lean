/- Parts of the proof: FpEnd0. -/
import Derived.Test.YteghcekbgfhieaaRows
import Derived.Test.YteghcekbgfhieaaFd
import Derived.Test.YteghcekbgfhieaaFc
/- The seat's program is the abstract one; its arguments read as abstract values. -/
namespace Go.Proofs.Yteghcekbgfhieaa
open Go.ChangeShapes Go.WideShapes Go.ChangeAt Go.RowKit

theorem Try.own : ownKnob Try.prog.godebug = none := by kernel_rfl
theorem Try.laidOut : laidOutB Try.prog = true := by kernel_rfl

theorem seat : Go.Abs.Seat Go.Abs.tab Go.Abs.prog := ⟨Go.Abs.tab_mixed, Go.Abs.tab_fns, fun _ _ _ _ _ _ h => by cases h⟩

section
variable {H : Type} {enc : TypeId × Value → H} {w : World}
theorem r_u32s : Go.Abs.Rd enc Try.prog w Go.Abs.tab.gid 26 (fun v => ∃ l : List Nat, v = Go.Abs.lim l ∧ Go.Abs.Li l ∧ l.length ≤ maxLen) := Go.Abs.W.rd_u32s Try.underlying26 Try.underlying79 (by kernel_rfl)
theorem r_dy : Go.Abs.Rd enc Try.prog w Go.Abs.tab.gid 28 (fun v => ∃ d : Go.Abs.W.Dy, v = d.v ∧ d.T) := Go.Abs.W.rd_dy Try.underlying28 (by kernel_rfl) Try.underlying4 r_u32s Try.underlying3 (by kernel_rfl)
theorem r_iv : Go.Abs.Rd enc Try.prog w Go.Abs.tab.gid 77 (fun v => ∃ x : Go.Abs.W.Iv, v = x.v ∧ x.T) := Go.Abs.W.rd_iv Try.underlying77 (by kernel_rfl) r_dy r_dy Try.underlying4 (by kernel_rfl)
theorem r_ivs : Go.Abs.Rd enc Try.prog w Go.Abs.tab.gid 22 (fun v => ∃ l : List Go.Abs.W.Iv, v = Go.Abs.W.ivs l ∧ Go.Abs.W.BxT l) := Go.Abs.W.rd_ivs Try.underlying22 (by kernel_rfl) r_iv
theorem r_sg : Go.Abs.Rd enc Try.prog w Go.Abs.tab.gid 50 (fun v => ∃ s : Go.Abs.W.Sg, v = s.v ∧ s.T) := Go.Abs.W.rd_sg Try.underlying50 (by kernel_rfl) r_dy r_dy r_ivs r_ivs (by kernel_rfl)
theorem r_sgs : Go.Abs.Rd enc Try.prog w Go.Abs.tab.gid 23 (fun v => ∃ l : List Go.Abs.W.Sg, v = Go.Abs.W.sgs l ∧ (∀ s ∈ l, s.T) ∧ l.length ≤ maxLen) := Go.Abs.W.rd_sgs Try.underlying23 (by kernel_rfl) r_sg
theorem r_pp : Go.Abs.Rd enc Try.prog w Go.Abs.tab.gid 25 (fun v => ∃ p : Go.Abs.W.Pp, v = p.v ∧ p.T) := Go.Abs.W.rd_pp Try.underlying25 (by kernel_rfl) r_ivs r_sgs (by kernel_rfl)
end

def zDy : Value := .agg #[.bool false, .slice none 0 0, .int .i64 0]
def zPp : Value := .agg #[.slice none 0 0, .slice none 0 0]

end Go.Proofs.Yteghcekbgfhieaa
