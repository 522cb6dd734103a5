/-
  A part of the proof of SoundKeys.
-/
import Derived.Test.YtnokpoinacbjiaaGreatDoorVC
set_option linter.unusedVariables false
set_option linter.unusedSimpArgs false
set_option linter.defProp false
set_option linter.unusedSectionVars false
namespace Go.Ds
set_option maxRecDepth 100000
theorem c1I : lW ([(48, 9)].flatMap sK) = true := by kernel_rfl
theorem c4a : lW ([(12, 5), (14, 2)].flatMap sK) = true := by kernel_rfl
theorem c4J : lW ([(2, 0), (4, 0), (6, 5)].flatMap sK) = true := by kernel_rfl
theorem c4w : lW ([(32, 7)].flatMap sK) = true := by kernel_rfl
theorem c3N : vG [20, 24, 28, 32] = true := by kernel_rfl
theorem c3s : lW ([(256, 4)].flatMap sK) = true := by kernel_rfl
theorem c3L : vU ([(160, 96, 9), (160, 128, 4), (192, 128, 7), (320, 256, 4)].flatMap a7q) = true := by kernel_rfl
end Go.Ds
