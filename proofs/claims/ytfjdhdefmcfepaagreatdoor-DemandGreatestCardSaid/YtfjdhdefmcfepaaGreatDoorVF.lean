/-
  A part of the proof of DemandGreatest.
-/
import Derived.Test.YtfjdhdefmcfepaaGreatDoorVC
set_option linter.unusedVariables false
set_option linter.unusedSimpArgs false
set_option linter.defProp false
set_option linter.unusedSectionVars false
namespace Go.Ds
set_option maxRecDepth 100000
theorem c5r : mE ([(24, 9)].flatMap sU) = true := by kernel_rfl
theorem c6u : mE ([(10, 8)].flatMap sU) = true := by kernel_rfl
theorem c2Y : mE ([(80, 8)].flatMap sU) = true := by kernel_rfl
theorem c4y : vO [2, 4, 6, 8] = true := by kernel_rfl
theorem c4x : vO [10, 12, 14, 16] = true := by kernel_rfl
theorem c6I : vO [160, 192, 256, 320] = true := by kernel_rfl
theorem c4Q : vU ([(96, 56, 9), (96, 64, 7), (96, 96, 0), (128, 80, 8), (128, 112, 2)].flatMap a6J) = true := by kernel_rfl
theorem c7A : c1r [2, 4, 6, 8, 10, 12, 14, 16, 20, 24, 28, 32, 40, 48, 56, 64, 80, 96, 112, 128, 160, 192, 256, 320] = true := by kernel_rfl
end Go.Ds
