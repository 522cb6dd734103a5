/-
  A part of the proof of DemandOrgans.
-/
import Derived.Test.YtbdbnfhkdmhobaaGreatDoorVC
set_option linter.unusedVariables false
set_option linter.unusedSimpArgs false
set_option linter.defProp false
set_option linter.unusedSectionVars false
namespace Go.Ds
set_option maxRecDepth 100000
theorem c0J : lX ([(48, 9)].flatMap rW) = true := by kernel_rfl
theorem c3a : lX ([(10, 8)].flatMap rW) = true := by kernel_rfl
theorem c4n : lX ([(40, 8)].flatMap rW) = true := by kernel_rfl
theorem c2t : lX ([(128, 7)].flatMap rW) = true := by kernel_rfl
theorem c4k : tQ [80, 96, 112, 128] = true := by kernel_rfl
theorem c3s : tY ([(16, 16, 0), (20, 16, 4), (24, 16, 7), (24, 24, 0), (32, 20, 8), (32, 24, 5), (32, 28, 2), (32, 32, 0)].flatMap a7c) = true := by kernel_rfl
theorem c4p : tY ([(64, 40, 8), (64, 48, 5), (64, 56, 2), (64, 64, 0), (80, 48, 9), (80, 56, 6)].flatMap a7c) = true := by kernel_rfl
theorem c0t : lX ([(112, 2)].flatMap rW) = true := by kernel_rfl
end Go.Ds
