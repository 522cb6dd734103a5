/-
  A part of the proof of SilenceIdle.
-/
import Derived.Test.YtabfngimnibecaaGreatDoorVC
set_option linter.unusedVariables false
set_option linter.unusedSimpArgs false
set_option linter.defProp false
set_option linter.unusedSectionVars false
namespace Go.Ds
set_option maxRecDepth 100000
theorem c1j : eC ([(24, 9)].flatMap kJ) = true := by kernel_rfl
theorem c2k : eC ([(10, 8)].flatMap kJ) = true := by kernel_rfl
theorem b8c : eC ([(80, 8)].flatMap kJ) = true := by kernel_rfl
theorem c1a : lV [2, 4, 6, 8] = true := by kernel_rfl
theorem c0k : lV [10, 12, 14, 16] = true := by kernel_rfl
theorem c1d : lV [160, 192, 256, 320] = true := by kernel_rfl
theorem b9t : mJ ([(96, 56, 9), (96, 64, 7), (96, 96, 0), (128, 80, 8), (128, 112, 2)].flatMap a1w) = true := by kernel_rfl
theorem c3w : b5a [2, 4, 6, 8, 10, 12, 14, 16, 20, 24, 28, 32, 40, 48, 56, 64, 80, 96, 112, 128, 160, 192, 256, 320] = true := by kernel_rfl
end Go.Ds
