/-
  A part of the proof of SilenceStrips.
-/
import Derived.Test.YtabfngimnibecaaGreatDoorVC
set_option linter.unusedVariables false
set_option linter.unusedSimpArgs false
set_option linter.defProp false
set_option linter.unusedSectionVars false
namespace Go.Ds
set_option maxRecDepth 100000
theorem b6W : eD ([(56, 9)].flatMap jX) = true := by kernel_rfl
theorem c1r : eD ([(20, 8)].flatMap jX) = true := by kernel_rfl
theorem c0i : eD ([(8, 7)].flatMap jX) = true := by kernel_rfl
theorem b5I : eD ([(64, 7)].flatMap jX) = true := by kernel_rfl
theorem b8k : mU [40, 48, 56, 64] = true := by kernel_rfl
theorem c1a : mX ([(2, 2, 0), (4, 4, 0), (8, 6, 5), (8, 8, 0), (10, 8, 4), (12, 8, 7), (16, 10, 8), (16, 12, 5), (16, 14, 2)].flatMap a2B) = true := by kernel_rfl
theorem b8K : mX ([(40, 24, 9), (40, 32, 4), (40, 40, 0), (48, 32, 7), (48, 40, 3), (48, 48, 0), (64, 40, 8)].flatMap a2B) = true := by kernel_rfl
theorem c0o : eD ([(28, 2)].flatMap jX) = true := by kernel_rfl
end Go.Ds
