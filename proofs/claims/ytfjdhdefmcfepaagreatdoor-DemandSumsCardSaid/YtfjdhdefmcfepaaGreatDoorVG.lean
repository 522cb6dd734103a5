/-
  A part of the proof of DemandSums.
-/
import Derived.Test.YtfjdhdefmcfepaaGreatDoorVC
set_option linter.unusedVariables false
set_option linter.unusedSimpArgs false
set_option linter.defProp false
set_option linter.unusedSectionVars false
namespace Go.Ds
set_option maxRecDepth 100000
theorem c2m : lV ([(48, 9)].flatMap rX) = true := by kernel_rfl
theorem c4J : lV ([(12, 5), (14, 2)].flatMap rX) = true := by kernel_rfl
theorem c4f : lV ([(2, 0), (4, 0), (6, 5)].flatMap rX) = true := by kernel_rfl
theorem c5C : lV ([(32, 7)].flatMap rX) = true := by kernel_rfl
theorem c5i : uR [20, 24, 28, 32] = true := by kernel_rfl
theorem c2z : lV ([(256, 4)].flatMap rX) = true := by kernel_rfl
theorem c3q : uY ([(160, 96, 9), (160, 128, 4), (192, 128, 7), (320, 256, 4)].flatMap a6H) = true := by kernel_rfl
end Go.Ds
