/-
  A part of the proof of SoundDiffers.
-/
import Derived.Test.YtnokpoinacbjiaaGreatDoorVC
set_option linter.unusedVariables false
set_option linter.unusedSimpArgs false
set_option linter.defProp false
set_option linter.unusedSectionVars false
namespace Go.Ds
set_option maxRecDepth 100000
theorem c4v : lT ([(24, 9)].flatMap rM) = true := by kernel_rfl
theorem c2D : lT ([(10, 8)].flatMap rM) = true := by kernel_rfl
theorem c1o : lT ([(80, 8)].flatMap rM) = true := by kernel_rfl
theorem c3c : uC [2, 4, 6, 8] = true := by kernel_rfl
theorem c2Z : uC [10, 12, 14, 16] = true := by kernel_rfl
theorem c4J : uC [160, 192, 256, 320] = true := by kernel_rfl
theorem c3m : uP ([(96, 56, 9), (96, 64, 7), (96, 96, 0), (128, 80, 8), (128, 112, 2)].flatMap a6g) = true := by kernel_rfl
theorem c5f : b9z [2, 4, 6, 8, 10, 12, 14, 16, 20, 24, 28, 32, 40, 48, 56, 64, 80, 96, 112, 128, 160, 192, 256, 320] = true := by kernel_rfl
end Go.Ds
