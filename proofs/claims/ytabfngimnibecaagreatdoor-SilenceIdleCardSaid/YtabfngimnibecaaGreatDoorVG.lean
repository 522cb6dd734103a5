/-
  A part of the proof of SilenceIdle.
-/
import Derived.Test.YtabfngimnibecaaGreatDoorVC
set_option linter.unusedVariables false
set_option linter.unusedSimpArgs false
set_option linter.defProp false
namespace Go.Ds
set_option maxRecDepth 100000
theorem b6e : eA ([(48, 9)].flatMap kA) = true := by kernel_rfl
theorem c2m : eA ([(12, 5), (14, 2)].flatMap kA) = true := by kernel_rfl
theorem b8Q : eA ([(2, 0), (4, 0), (6, 5)].flatMap kA) = true := by kernel_rfl
theorem c0V : eA ([(32, 7)].flatMap kA) = true := by kernel_rfl
theorem c1v : lW [20, 24, 28, 32] = true := by kernel_rfl
theorem b7k : eA ([(256, 4)].flatMap kA) = true := by kernel_rfl
theorem c1M : lX ([(160, 96, 9), (160, 128, 4), (192, 128, 7), (320, 256, 4)].flatMap a3d) = true := by kernel_rfl
end Go.Ds
