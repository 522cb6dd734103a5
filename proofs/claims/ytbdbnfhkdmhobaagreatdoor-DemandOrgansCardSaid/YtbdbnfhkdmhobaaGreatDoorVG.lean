/-
  A part of the proof of DemandOrgans.
-/
import Derived.Test.YtbdbnfhkdmhobaaGreatDoorVC
set_option linter.unusedVariables false
set_option linter.unusedSimpArgs false
set_option linter.defProp false
set_option linter.unusedSectionVars false
namespace Go.Ds
set_option maxRecDepth 100000
theorem c4M : lX ([(24, 9)].flatMap rW) = true := by kernel_rfl
theorem c1g : lX ([(96, 9)].flatMap rW) = true := by kernel_rfl
theorem c3A : lX ([(8, 7)].flatMap rW) = true := by kernel_rfl
theorem c0w : lX ([(64, 7)].flatMap rW) = true := by kernel_rfl
theorem c3z : tQ [40, 48, 56, 64] = true := by kernel_rfl
theorem c3L : tY ([(2, 2, 0), (4, 4, 0), (8, 6, 5), (8, 8, 0), (10, 8, 4), (12, 8, 7), (16, 10, 8), (16, 12, 5), (16, 14, 2)].flatMap a7c) = true := by kernel_rfl
theorem c3U : tY ([(40, 24, 9), (40, 32, 4), (40, 40, 0), (48, 32, 7), (48, 40, 3), (48, 48, 0), (56, 32, 10)].flatMap a7c) = true := by kernel_rfl
theorem c3i : lX ([(28, 2)].flatMap rW) = true := by kernel_rfl
end Go.Ds
