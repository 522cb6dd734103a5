/-
  A part of the proof of DemandGreatest.
-/
import Derived.Test.YtfjdhdefmcfepaaGreatDoorVC
set_option linter.unusedVariables false
set_option linter.unusedSimpArgs false
set_option linter.defProp false
set_option linter.unusedSectionVars false
namespace Go.Ds
set_option maxRecDepth 100000
theorem c2l : mE ([(48, 9)].flatMap sU) = true := by kernel_rfl
theorem c5M : mE ([(12, 5), (14, 2)].flatMap sU) = true := by kernel_rfl
theorem c5q : mE ([(2, 0), (4, 0), (6, 5)].flatMap sU) = true := by kernel_rfl
theorem c5o : mE ([(32, 7)].flatMap sU) = true := by kernel_rfl
theorem c4G : vO [20, 24, 28, 32] = true := by kernel_rfl
theorem c3A : mE ([(256, 4)].flatMap sU) = true := by kernel_rfl
theorem c6S : vU ([(160, 96, 9), (160, 128, 4), (192, 128, 7), (320, 256, 4)].flatMap a6J) = true := by kernel_rfl
end Go.Ds
