/- Parts of the proof: FpXu2. -/
import Derived.Test.YtedfjcdjmnaaiaaGreatDoorXf
namespace Go.Abs.W
set_option maxRecDepth 100000
theorem ln36 : nar (log2I 36) 36 (nD 1) = true := by decide +kernel
theorem ln37 : nar (log2I 37) 37 (nD 1) = true := by decide +kernel
theorem ln38 : nar (log2I 38) 38 (nD 1) = true := by decide +kernel
theorem ln39 : nar (log2I 39) 39 (nD 1) = true := by decide +kernel
theorem ln40 : nar (log2I 40) 40 (nD 1) = true := by decide +kernel
theorem ln41 : nar (log2I 41) 41 (nD 1) = true := by decide +kernel
theorem ln42 : nar (log2I 42) 42 (nD 1) = true := by decide +kernel
theorem ln43 : nar (log2I 43) 43 (nD 1) = true := by decide +kernel
theorem ln44 : nar (log2I 44) 44 (nD 1) = true := by decide +kernel
theorem ln45 : nar (log2I 45) 45 (nD 1) = true := by decide +kernel
theorem ln46 : nar (log2I 46) 46 (nD 1) = true := by decide +kernel
theorem ln47 : nar (log2I 47) 47 (nD 1) = true := by decide +kernel
theorem ln48 : nar (log2I 48) 48 (nD 1) = true := by decide +kernel
theorem ln49 : nar (log2I 49) 49 (nD 1) = true := by decide +kernel
theorem ln50 : nar (log2I 50) 50 (nD 1) = true := by decide +kernel
theorem ln51 : nar (log2I 51) 51 (nD 1) = true := by decide +kernel
end Go.Abs.W
