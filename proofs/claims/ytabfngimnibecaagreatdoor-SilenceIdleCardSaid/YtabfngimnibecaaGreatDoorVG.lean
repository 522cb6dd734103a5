/-
  A part of the proof of SilenceIdle.
-/
import Derived.Test.YtabfngimnibecaaGreatDoorVC
set_option linter.unusedVariables false
set_option linter.unusedSimpArgs false
set_option linter.defProp false
set_option linter.unusedSectionVars false
namespace Go.Ds
set_option maxRecDepth 100000
theorem b7l : eC ([(48, 9)].flatMap kJ) = true := by kernel_rfl
theorem b9D : eC ([(12, 5), (14, 2)].flatMap kJ) = true := by kernel_rfl
theorem b9P : eC ([(2, 0), (4, 0), (6, 5)].flatMap kJ) = true := by kernel_rfl
theorem b9n : eC ([(32, 7)].flatMap kJ) = true := by kernel_rfl
theorem c0L : lV [20, 24, 28, 32] = true := by kernel_rfl
theorem b7t : eC ([(256, 4)].flatMap kJ) = true := by kernel_rfl
theorem c0e : mJ ([(160, 96, 9), (160, 128, 4), (192, 128, 7), (320, 256, 4)].flatMap a1w) = true := by kernel_rfl
end Go.Ds
