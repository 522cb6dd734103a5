/-
  A part of the proof of SilenceAdds.
-/
import Derived.Test.YtmhekfhdnednjaaGreatDoorVC
set_option linter.unusedVariables false
set_option linter.unusedSimpArgs false
set_option linter.defProp false
set_option linter.unusedSectionVars false
namespace Go.Ds
set_option maxRecDepth 100000
theorem c3C : lZ ([(32, 10)].flatMap sB) = true := by kernel_rfl
theorem c3E : lZ ([(20, 8)].flatMap sB) = true := by kernel_rfl
theorem c4z : lZ ([(2, 0), (4, 0), (6, 5)].flatMap sB) = true := by kernel_rfl
theorem c3j : lZ ([(16, 7)].flatMap sB) = true := by kernel_rfl
theorem c2R : tZ [20, 24, 28, 32] = true := by kernel_rfl
theorem c1r : lZ ([(256, 4)].flatMap sB) = true := by kernel_rfl
theorem c4i : uU ([(160, 96, 9), (160, 128, 4), (192, 128, 7), (320, 256, 4)].flatMap a7M) = true := by kernel_rfl
end Go.Ds
