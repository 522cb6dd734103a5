/-
  A part of the proof of SilenceIdle.
-/
import Derived.Test.YtabfngimnibecaaGreatDoorVC
set_option linter.unusedVariables false
set_option linter.unusedSimpArgs false
set_option linter.defProp false
namespace Go.Ds
set_option maxRecDepth 100000
theorem c0U : eA ([(24, 9)].flatMap kA) = true := by kernel_rfl
theorem b8y : eA ([(10, 8)].flatMap kA) = true := by kernel_rfl
theorem b6w : eA ([(80, 8)].flatMap kA) = true := by kernel_rfl
theorem b8I : lW [2, 4, 6, 8] = true := by kernel_rfl
theorem c0D : lW [10, 12, 14, 16] = true := by kernel_rfl
theorem c1B : lW [160, 192, 256, 320] = true := by kernel_rfl
theorem c0A : lX ([(96, 56, 9), (96, 64, 7), (96, 96, 0), (128, 80, 8), (128, 112, 2)].flatMap a3d) = true := by kernel_rfl
theorem c4c : b5A [2, 4, 6, 8, 10, 12, 14, 16, 20, 24, 28, 32, 40, 48, 56, 64, 80, 96, 112, 128, 160, 192, 256, 320] = true := by kernel_rfl
end Go.Ds
