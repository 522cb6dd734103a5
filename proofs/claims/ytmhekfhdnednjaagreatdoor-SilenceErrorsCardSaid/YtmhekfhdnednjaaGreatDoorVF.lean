/-
  A part of the proof of SilenceErrors.
-/
import Derived.Test.YtmhekfhdnednjaaGreatDoorVC
set_option linter.unusedVariables false
set_option linter.unusedSimpArgs false
set_option linter.defProp false
set_option linter.unusedSectionVars false
namespace Go.Ds
set_option maxRecDepth 100000
theorem c3K : lS ([(32, 10)].flatMap rL) = true := by kernel_rfl
theorem c2C : lS ([(20, 8)].flatMap rL) = true := by kernel_rfl
theorem c3F : lS ([(2, 0), (4, 0), (6, 5)].flatMap rL) = true := by kernel_rfl
theorem c2t : lS ([(16, 7)].flatMap rL) = true := by kernel_rfl
theorem c1K : uD [20, 24, 28, 32] = true := by kernel_rfl
theorem c0k : lS ([(256, 4)].flatMap rL) = true := by kernel_rfl
theorem c3V : tE ([(160, 96, 9), (160, 128, 4), (192, 128, 7), (320, 256, 4)].flatMap a6E) = true := by kernel_rfl
end Go.Ds
