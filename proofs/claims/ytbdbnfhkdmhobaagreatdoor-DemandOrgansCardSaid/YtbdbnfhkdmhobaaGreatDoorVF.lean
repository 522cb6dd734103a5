/-
  A part of the proof of DemandOrgans.
-/
import Derived.Test.YtbdbnfhkdmhobaaGreatDoorVC
set_option linter.unusedVariables false
set_option linter.unusedSimpArgs false
set_option linter.defProp false
set_option linter.unusedSectionVars false
namespace Go.Ds
set_option maxRecDepth 100000
theorem c4N : lX ([(32, 10)].flatMap rW) = true := by kernel_rfl
theorem c3K : lX ([(20, 8)].flatMap rW) = true := by kernel_rfl
theorem c4b : lX ([(2, 0), (4, 0), (6, 5)].flatMap rW) = true := by kernel_rfl
theorem c3y : lX ([(16, 7)].flatMap rW) = true := by kernel_rfl
theorem c3C : tQ [20, 24, 28, 32] = true := by kernel_rfl
theorem c1O : lX ([(256, 4)].flatMap rW) = true := by kernel_rfl
theorem c4s : tY ([(160, 96, 9), (160, 128, 4), (192, 128, 7), (320, 256, 4)].flatMap a7c) = true := by kernel_rfl
end Go.Ds
