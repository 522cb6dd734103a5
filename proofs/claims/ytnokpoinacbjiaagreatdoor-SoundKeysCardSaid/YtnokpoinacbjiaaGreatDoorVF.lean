/-
  A part of the proof of SoundKeys.
-/
import Derived.Test.YtnokpoinacbjiaaGreatDoorVC
set_option linter.unusedVariables false
set_option linter.unusedSimpArgs false
set_option linter.defProp false
set_option linter.unusedSectionVars false
namespace Go.Ds
set_option maxRecDepth 100000
theorem c3U : lW ([(24, 9)].flatMap sK) = true := by kernel_rfl
theorem c4b : lW ([(10, 8)].flatMap sK) = true := by kernel_rfl
theorem c2M : lW ([(80, 8)].flatMap sK) = true := by kernel_rfl
theorem c4p : vG [2, 4, 6, 8] = true := by kernel_rfl
theorem c3W : vG [10, 12, 14, 16] = true := by kernel_rfl
theorem c5G : vG [160, 192, 256, 320] = true := by kernel_rfl
theorem c6g : vU ([(96, 56, 9), (96, 64, 7), (96, 96, 0), (128, 80, 8), (128, 112, 2)].flatMap a7q) = true := by kernel_rfl
theorem c6z : c0Y [2, 4, 6, 8, 10, 12, 14, 16, 20, 24, 28, 32, 40, 48, 56, 64, 80, 96, 112, 128, 160, 192, 256, 320] = true := by kernel_rfl
end Go.Ds
