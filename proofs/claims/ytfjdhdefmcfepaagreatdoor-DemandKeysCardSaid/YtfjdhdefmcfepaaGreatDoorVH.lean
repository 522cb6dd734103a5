/-
  A part of the proof of DemandKeys.
-/
import Derived.Test.YtfjdhdefmcfepaaGreatDoorVC
set_option linter.unusedVariables false
set_option linter.unusedSimpArgs false
set_option linter.defProp false
set_option linter.unusedSectionVars false
namespace Go.Ds
set_option maxRecDepth 100000
theorem c2o : mA ([(56, 9)].flatMap sS) = true := by kernel_rfl
theorem c5z : mA ([(20, 8)].flatMap sS) = true := by kernel_rfl
theorem c6z : mA ([(8, 7)].flatMap sS) = true := by kernel_rfl
theorem c2I : mA ([(64, 7)].flatMap sS) = true := by kernel_rfl
theorem c5X : uT [40, 48, 56, 64] = true := by kernel_rfl
theorem c4y : vW ([(2, 2, 0), (4, 4, 0), (8, 6, 5), (8, 8, 0), (10, 8, 4), (12, 8, 7), (16, 10, 8), (16, 12, 5), (16, 14, 2)].flatMap a8Q) = true := by kernel_rfl
theorem c5A : vW ([(40, 24, 9), (40, 32, 4), (40, 40, 0), (48, 32, 7), (48, 40, 3), (48, 48, 0), (64, 40, 8)].flatMap a8Q) = true := by kernel_rfl
theorem c4S : mA ([(28, 2)].flatMap sS) = true := by kernel_rfl
end Go.Ds
