/-
  A part of the proof of SilenceErrors.
-/
import Derived.Test.YtmhekfhdnednjaaGreatDoorVC
set_option linter.unusedVariables false
set_option linter.unusedSimpArgs false
set_option linter.defProp false
set_option linter.unusedSectionVars false
namespace Go.Ds
set_option maxRecDepth 100000
theorem c0j : lS ([(56, 9)].flatMap rL) = true := by kernel_rfl
theorem c2g : lS ([(12, 5), (14, 2)].flatMap rL) = true := by kernel_rfl
theorem c1C : lS ([(80, 8)].flatMap rL) = true := by kernel_rfl
theorem c2O : uD [2, 4, 6, 8] = true := by kernel_rfl
theorem c3v : uD [10, 12, 14, 16] = true := by kernel_rfl
theorem c3z : uD [160, 192, 256, 320] = true := by kernel_rfl
theorem c3s : tE ([(80, 64, 4), (80, 80, 0), (96, 56, 9), (96, 64, 7), (96, 96, 0), (128, 80, 8), (128, 112, 2)].flatMap a6E) = true := by kernel_rfl
theorem c5q : b9u [2, 4, 6, 8, 10, 12, 14, 16, 20, 24, 28, 32, 40, 48, 56, 64, 80, 96, 112, 128, 160, 192, 256, 320] = true := by kernel_rfl
end Go.Ds
