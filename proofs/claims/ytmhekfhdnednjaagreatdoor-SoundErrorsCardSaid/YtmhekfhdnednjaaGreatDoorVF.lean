/-
  A part of the proof of SoundErrors.
-/
import Derived.Test.YtmhekfhdnednjaaGreatDoorVC
set_option linter.unusedVariables false
set_option linter.unusedSimpArgs false
set_option linter.defProp false
set_option linter.unusedSectionVars false
namespace Go.Ds
set_option maxRecDepth 100000
theorem c5r : lW ([(32, 10)].flatMap rZ) = true := by kernel_rfl
theorem c3j : lW ([(20, 8)].flatMap rZ) = true := by kernel_rfl
theorem c3I : lW ([(2, 0), (4, 0), (6, 5)].flatMap rZ) = true := by kernel_rfl
theorem c4B : lW ([(16, 7)].flatMap rZ) = true := by kernel_rfl
theorem c4u : tW [20, 24, 28, 32] = true := by kernel_rfl
theorem c2O : lW ([(256, 4)].flatMap rZ) = true := by kernel_rfl
theorem c3Q : tT ([(160, 96, 9), (160, 128, 4), (192, 128, 7), (320, 256, 4)].flatMap a6R) = true := by kernel_rfl
end Go.Ds
