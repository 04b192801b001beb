/- Parts of the proof: FpXu1. -/
import Derived.Test.YtedfjcdjmnaaiaaGreatDoorXf
namespace Go.Abs.W
set_option maxRecDepth 100000
theorem ln8 : nar (log2I 8) 8 (nD 1) = true := by decide +kernel
theorem ln9 : nar (log2I 9) 9 (nD 1) = true := by decide +kernel
theorem ln10 : nar (log2I 10) 10 (nD 1) = true := by decide +kernel
theorem ln11 : nar (log2I 11) 11 (nD 1) = true := by decide +kernel
theorem ln12 : nar (log2I 12) 12 (nD 1) = true := by decide +kernel
theorem ln13 : nar (log2I 13) 13 (nD 1) = true := by decide +kernel
theorem ln14 : nar (log2I 14) 14 (nD 1) = true := by decide +kernel
theorem ln15 : nar (log2I 15) 15 (nD 1) = true := by decide +kernel
theorem ln16 : nar (log2I 16) 16 (nD 1) = true := by decide +kernel
theorem ln17 : nar (log2I 17) 17 (nD 1) = true := by decide +kernel
theorem ln18 : nar (log2I 18) 18 (nD 1) = true := by decide +kernel
theorem ln19 : nar (log2I 19) 19 (nD 1) = true := by decide +kernel
theorem ln20 : nar (log2I 20) 20 (nD 1) = true := by decide +kernel
theorem ln21 : nar (log2I 21) 21 (nD 1) = true := by decide +kernel
theorem ln22 : nar (log2I 22) 22 (nD 1) = true := by decide +kernel
theorem ln23 : nar (log2I 23) 23 (nD 1) = true := by decide +kernel
theorem ln24 : nar (log2I 24) 24 (nD 1) = true := by decide +kernel
theorem ln25 : nar (log2I 25) 25 (nD 1) = true := by decide +kernel
theorem ln26 : nar (log2I 26) 26 (nD 1) = true := by decide +kernel
theorem ln27 : nar (log2I 27) 27 (nD 1) = true := by decide +kernel
theorem ln28 : nar (log2I 28) 28 (nD 1) = true := by decide +kernel
theorem ln29 : nar (log2I 29) 29 (nD 1) = true := by decide +kernel
theorem ln30 : nar (log2I 30) 30 (nD 1) = true := by decide +kernel
theorem ln31 : nar (log2I 31) 31 (nD 1) = true := by decide +kernel
theorem ln32 : nar (log2I 32) 32 (nD 1) = true := by decide +kernel
theorem ln33 : nar (log2I 33) 33 (nD 1) = true := by decide +kernel
theorem ln34 : nar (log2I 34) 34 (nD 1) = true := by decide +kernel
theorem ln35 : nar (log2I 35) 35 (nD 1) = true := by decide +kernel
end Go.Abs.W
