/-
  A part of the proof of DemandBounds.
-/
import Derived.Test.YtfjdhdefmcfepaaGreatDoorVC
set_option linter.unusedVariables false
set_option linter.unusedSimpArgs false
set_option linter.defProp false
set_option linter.unusedSectionVars false
namespace Go.Ds
set_option maxRecDepth 100000
theorem c2j : lT ([(96, 9)].flatMap sA) = true := by kernel_rfl
theorem c2T : lT ([(40, 8)].flatMap sA) = true := by kernel_rfl
theorem c3m : lT ([(16, 7)].flatMap sA) = true := by kernel_rfl
theorem c2k : lT ([(128, 7)].flatMap sA) = true := by kernel_rfl
theorem c3j : uJ [80, 96, 112, 128] = true := by kernel_rfl
theorem c4T : tT ([(16, 16, 0), (20, 16, 4), (24, 16, 7), (24, 24, 0), (32, 20, 8), (32, 24, 5), (32, 28, 2), (32, 32, 0)].flatMap a5T) = true := by kernel_rfl
theorem c2O : tT ([(64, 48, 5), (64, 56, 2), (64, 64, 0), (80, 48, 9), (80, 56, 6), (80, 64, 4), (80, 80, 0)].flatMap a5T) = true := by kernel_rfl
theorem c2b : lT ([(112, 2)].flatMap sA) = true := by kernel_rfl
end Go.Ds
