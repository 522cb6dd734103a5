/-
  A part of the proof of DemandSums.
-/
import Derived.Test.YtfjdhdefmcfepaaGreatDoorVC
set_option linter.unusedVariables false
set_option linter.unusedSimpArgs false
set_option linter.defProp false
set_option linter.unusedSectionVars false
namespace Go.Ds
set_option maxRecDepth 100000
theorem c5z : lV ([(24, 9)].flatMap rX) = true := by kernel_rfl
theorem c4T : lV ([(10, 8)].flatMap rX) = true := by kernel_rfl
theorem c1O : lV ([(80, 8)].flatMap rX) = true := by kernel_rfl
theorem c4b : uR [2, 4, 6, 8] = true := by kernel_rfl
theorem c3I : uR [10, 12, 14, 16] = true := by kernel_rfl
theorem c4x : uR [160, 192, 256, 320] = true := by kernel_rfl
theorem c5x : uY ([(96, 56, 9), (96, 64, 7), (96, 96, 0), (128, 80, 8), (128, 112, 2)].flatMap a6H) = true := by kernel_rfl
theorem c6u : c0m [2, 4, 6, 8, 10, 12, 14, 16, 20, 24, 28, 32, 40, 48, 56, 64, 80, 96, 112, 128, 160, 192, 256, 320] = true := by kernel_rfl
end Go.Ds
