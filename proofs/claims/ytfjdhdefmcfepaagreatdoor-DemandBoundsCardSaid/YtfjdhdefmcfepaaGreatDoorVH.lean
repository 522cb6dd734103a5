/-
  A part of the proof of DemandBounds.
-/
import Derived.Test.YtfjdhdefmcfepaaGreatDoorVC
set_option linter.unusedVariables false
set_option linter.unusedSimpArgs false
set_option linter.defProp false
set_option linter.unusedSectionVars false
namespace Go.Ds
set_option maxRecDepth 100000
theorem c2h : lT ([(56, 9)].flatMap sA) = true := by kernel_rfl
theorem c4p : lT ([(20, 8)].flatMap sA) = true := by kernel_rfl
theorem c4J : lT ([(8, 7)].flatMap sA) = true := by kernel_rfl
theorem c2G : lT ([(64, 7)].flatMap sA) = true := by kernel_rfl
theorem c4y : uJ [40, 48, 56, 64] = true := by kernel_rfl
theorem c3f : tT ([(2, 2, 0), (4, 4, 0), (8, 6, 5), (8, 8, 0), (10, 8, 4), (12, 8, 7), (16, 10, 8), (16, 12, 5), (16, 14, 2)].flatMap a5T) = true := by kernel_rfl
theorem c3T : tT ([(40, 24, 9), (40, 32, 4), (40, 40, 0), (48, 32, 7), (48, 40, 3), (48, 48, 0), (64, 40, 8)].flatMap a5T) = true := by kernel_rfl
theorem c5b : lT ([(28, 2)].flatMap sA) = true := by kernel_rfl
end Go.Ds
