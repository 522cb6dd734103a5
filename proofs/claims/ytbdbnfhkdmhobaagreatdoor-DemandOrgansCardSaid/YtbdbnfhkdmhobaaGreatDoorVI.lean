/-
  A part of the proof of DemandOrgans.
-/
import Derived.Test.YtbdbnfhkdmhobaaGreatDoorVC
set_option linter.unusedVariables false
set_option linter.unusedSimpArgs false
set_option linter.defProp false
set_option linter.unusedSectionVars false
namespace Go.Ds
set_option maxRecDepth 100000
theorem c0v : lX ([(56, 9)].flatMap rW) = true := by kernel_rfl
theorem c2O : lX ([(12, 5), (14, 2)].flatMap rW) = true := by kernel_rfl
theorem c1W : lX ([(80, 8)].flatMap rW) = true := by kernel_rfl
theorem c2Z : tQ [2, 4, 6, 8] = true := by kernel_rfl
theorem c4m : tQ [10, 12, 14, 16] = true := by kernel_rfl
theorem c3h : tQ [160, 192, 256, 320] = true := by kernel_rfl
theorem c4F : tY ([(80, 64, 4), (80, 80, 0), (96, 56, 9), (96, 64, 7), (96, 96, 0), (128, 80, 8), (128, 112, 2)].flatMap a7c) = true := by kernel_rfl
theorem c5x : c0e [2, 4, 6, 8, 10, 12, 14, 16, 20, 24, 28, 32, 40, 48, 56, 64, 80, 96, 112, 128, 160, 192, 256, 320] = true := by kernel_rfl
end Go.Ds
