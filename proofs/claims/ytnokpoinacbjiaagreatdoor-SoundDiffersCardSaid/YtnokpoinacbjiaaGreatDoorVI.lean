/-
  A part of the proof of SoundDiffers.
-/
import Derived.Test.YtnokpoinacbjiaaGreatDoorVC
set_option linter.unusedVariables false
set_option linter.unusedSimpArgs false
set_option linter.defProp false
set_option linter.unusedSectionVars false
namespace Go.Ds
set_option maxRecDepth 100000
theorem c1Q : lT ([(96, 9)].flatMap rM) = true := by kernel_rfl
theorem c4L : lT ([(40, 8)].flatMap rM) = true := by kernel_rfl
theorem c2Q : lT ([(16, 7)].flatMap rM) = true := by kernel_rfl
theorem c0r : lT ([(128, 7)].flatMap rM) = true := by kernel_rfl
theorem c2T : uC [80, 96, 112, 128] = true := by kernel_rfl
theorem c4l : uP ([(16, 16, 0), (20, 16, 4), (24, 16, 7), (24, 24, 0), (32, 20, 8), (32, 24, 5), (32, 28, 2), (32, 32, 0)].flatMap a6g) = true := by kernel_rfl
theorem c2C : uP ([(64, 48, 5), (64, 56, 2), (64, 64, 0), (80, 48, 9), (80, 56, 6), (80, 64, 4), (80, 80, 0)].flatMap a6g) = true := by kernel_rfl
theorem c2m : lT ([(112, 2)].flatMap rM) = true := by kernel_rfl
end Go.Ds
