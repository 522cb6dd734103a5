/-
  A part of the proof of SilenceStrips.
-/
import Derived.Test.YtabfngimnibecaaGreatDoorVC
set_option linter.unusedVariables false
set_option linter.unusedSimpArgs false
set_option linter.defProp false
set_option linter.unusedSectionVars false
namespace Go.Ds
set_option maxRecDepth 100000
theorem c1D : eD ([(24, 9)].flatMap jX) = true := by kernel_rfl
theorem b9n : eD ([(10, 8)].flatMap jX) = true := by kernel_rfl
theorem b6j : eD ([(80, 8)].flatMap jX) = true := by kernel_rfl
theorem c1k : mU [2, 4, 6, 8] = true := by kernel_rfl
theorem b8A : mU [10, 12, 14, 16] = true := by kernel_rfl
theorem c0y : mU [160, 192, 256, 320] = true := by kernel_rfl
theorem c0H : mX ([(96, 56, 9), (96, 64, 7), (96, 96, 0), (128, 80, 8), (128, 112, 2)].flatMap a2B) = true := by kernel_rfl
theorem c4p : b5x [2, 4, 6, 8, 10, 12, 14, 16, 20, 24, 28, 32, 40, 48, 56, 64, 80, 96, 112, 128, 160, 192, 256, 320] = true := by kernel_rfl
end Go.Ds
