/-
  A part of the proof of SilenceApart.
-/
import Derived.Test.YtmhekfhdnednjaaGreatDoorVC
set_option linter.unusedVariables false
set_option linter.unusedSimpArgs false
set_option linter.defProp false
set_option linter.unusedSectionVars false
namespace Go.Ds
set_option maxRecDepth 100000
theorem c5L : mA ([(32, 10)].flatMap sF) = true := by kernel_rfl
theorem c5Z : mA ([(20, 8)].flatMap sF) = true := by kernel_rfl
theorem c4S : mA ([(2, 0), (4, 0), (6, 5)].flatMap sF) = true := by kernel_rfl
theorem c5z : mA ([(16, 7)].flatMap sF) = true := by kernel_rfl
theorem c4j : tZ [20, 24, 28, 32] = true := by kernel_rfl
theorem c2W : mA ([(256, 4)].flatMap sF) = true := by kernel_rfl
theorem c3z : uD ([(160, 96, 9), (160, 128, 4), (192, 128, 7), (320, 256, 4)].flatMap a7Z) = true := by kernel_rfl
end Go.Ds
