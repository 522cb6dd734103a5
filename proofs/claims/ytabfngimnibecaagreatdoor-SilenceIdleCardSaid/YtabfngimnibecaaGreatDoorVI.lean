/-
  A part of the proof of SilenceIdle.
-/
import Derived.Test.YtabfngimnibecaaGreatDoorVC
set_option linter.unusedVariables false
set_option linter.unusedSimpArgs false
set_option linter.defProp false
set_option linter.unusedSectionVars false
namespace Go.Ds
set_option maxRecDepth 100000
theorem b6Z : eC ([(96, 9)].flatMap kJ) = true := by kernel_rfl
theorem c0H : eC ([(40, 8)].flatMap kJ) = true := by kernel_rfl
theorem c1Y : eC ([(16, 7)].flatMap kJ) = true := by kernel_rfl
theorem b6R : eC ([(128, 7)].flatMap kJ) = true := by kernel_rfl
theorem c1E : lV [80, 96, 112, 128] = true := by kernel_rfl
theorem c0p : mJ ([(16, 16, 0), (20, 16, 4), (24, 16, 7), (24, 24, 0), (32, 20, 8), (32, 24, 5), (32, 28, 2), (32, 32, 0)].flatMap a1w) = true := by kernel_rfl
theorem b9A : mJ ([(64, 48, 5), (64, 56, 2), (64, 64, 0), (80, 48, 9), (80, 56, 6), (80, 64, 4), (80, 80, 0)].flatMap a1w) = true := by kernel_rfl
theorem b7f : eC ([(112, 2)].flatMap kJ) = true := by kernel_rfl
end Go.Ds
