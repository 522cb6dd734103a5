/-
  A part of the proof of SilenceIdle.
-/
import Derived.Test.YtabfngimnibecaaGreatDoorVC
set_option linter.unusedVariables false
set_option linter.unusedSimpArgs false
set_option linter.defProp false
namespace Go.Ds
set_option maxRecDepth 100000
theorem b7T : eA ([(96, 9)].flatMap kA) = true := by kernel_rfl
theorem c0w : eA ([(40, 8)].flatMap kA) = true := by kernel_rfl
theorem b9E : eA ([(16, 7)].flatMap kA) = true := by kernel_rfl
theorem b7y : eA ([(128, 7)].flatMap kA) = true := by kernel_rfl
theorem b8R : lW [80, 96, 112, 128] = true := by kernel_rfl
theorem b9x : lX ([(16, 16, 0), (20, 16, 4), (24, 16, 7), (24, 24, 0), (32, 20, 8), (32, 24, 5), (32, 28, 2), (32, 32, 0)].flatMap a3d) = true := by kernel_rfl
theorem c1P : lX ([(64, 48, 5), (64, 56, 2), (64, 64, 0), (80, 48, 9), (80, 56, 6), (80, 64, 4), (80, 80, 0)].flatMap a3d) = true := by kernel_rfl
theorem b6X : eA ([(112, 2)].flatMap kA) = true := by kernel_rfl
end Go.Ds
