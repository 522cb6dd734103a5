/-
  A part of the proof of SoundDiffers.
-/
import Derived.Test.YtnokpoinacbjiaaGreatDoorVC
set_option linter.unusedVariables false
set_option linter.unusedSimpArgs false
set_option linter.defProp false
set_option linter.unusedSectionVars false
namespace Go.Ds
set_option maxRecDepth 100000
theorem c2o : lT ([(48, 9)].flatMap rM) = true := by kernel_rfl
theorem c4C : lT ([(12, 5), (14, 2)].flatMap rM) = true := by kernel_rfl
theorem c2L : lT ([(2, 0), (4, 0), (6, 5)].flatMap rM) = true := by kernel_rfl
theorem c4e : lT ([(32, 7)].flatMap rM) = true := by kernel_rfl
theorem c2x : uC [20, 24, 28, 32] = true := by kernel_rfl
theorem c1F : lT ([(256, 4)].flatMap rM) = true := by kernel_rfl
theorem c3i : uP ([(160, 96, 9), (160, 128, 4), (192, 128, 7), (320, 256, 4)].flatMap a6g) = true := by kernel_rfl
end Go.Ds
