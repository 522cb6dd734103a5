/-
  A part of the proof of DemandLists.
-/
import Derived.Test.YtbdbnfhkdmhobaaGreatDoorVC
set_option linter.unusedVariables false
set_option linter.unusedSimpArgs false
set_option linter.defProp false
set_option linter.unusedSectionVars false
namespace Go.Ds
set_option maxRecDepth 100000
theorem c1Q : lV ([(48, 9)].flatMap sL) = true := by kernel_rfl
theorem c5t : lV ([(10, 8)].flatMap sL) = true := by kernel_rfl
theorem c3M : lV ([(40, 8)].flatMap sL) = true := by kernel_rfl
theorem c1S : lV ([(128, 7)].flatMap sL) = true := by kernel_rfl
theorem c4S : uF [80, 96, 112, 128] = true := by kernel_rfl
theorem c3G : vJ ([(16, 16, 0), (20, 16, 4), (24, 16, 7), (24, 24, 0), (32, 20, 8), (32, 24, 5), (32, 28, 2), (32, 32, 0)].flatMap a7J) = true := by kernel_rfl
theorem c5q : vJ ([(64, 40, 8), (64, 48, 5), (64, 56, 2), (64, 64, 0), (80, 48, 9), (80, 56, 6)].flatMap a7J) = true := by kernel_rfl
theorem c1X : lV ([(112, 2)].flatMap sL) = true := by kernel_rfl
end Go.Ds
