/- Parts of the proof: FpXu3. -/
import Derived.Test.YtedfjcdjmnaaiaaGreatDoorXf
namespace Go.Abs.W
set_option maxRecDepth 100000
theorem ln52 : nar (log2I 52) 52 (nD 1) = true := by decide +kernel
theorem ln53 : nar (log2I 53) 53 (nD 1) = true := by decide +kernel
theorem ln54 : nar (log2I 54) 54 (nD 1) = true := by decide +kernel
theorem ln55 : nar (log2I 55) 55 (nD 1) = true := by decide +kernel
theorem ln56 : nar (log2I 56) 56 (nD 1) = true := by decide +kernel
theorem ln57 : nar (log2I 57) 57 (nD 1) = true := by decide +kernel
theorem ln58 : nar (log2I 58) 58 (nD 1) = true := by decide +kernel
theorem ln59 : nar (log2I 59) 59 (nD 1) = true := by decide +kernel
theorem ln60 : nar (log2I 60) 60 (nD 1) = true := by decide +kernel
theorem ln61 : nar (log2I 61) 61 (nD 1) = true := by decide +kernel
theorem ln62 : nar (log2I 62) 62 (nD 1) = true := by decide +kernel
theorem ln63 : nar (log2I 63) 63 (nD 1) = true := by decide +kernel
theorem ln64 : nar (log2I 64) 64 (nD 1) = true := by decide +kernel
end Go.Abs.W
