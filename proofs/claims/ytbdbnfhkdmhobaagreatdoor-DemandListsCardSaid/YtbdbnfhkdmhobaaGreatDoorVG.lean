/-
  A part of the proof of DemandLists.
-/
import Derived.Test.YtbdbnfhkdmhobaaGreatDoorVC
set_option linter.unusedVariables false
set_option linter.unusedSimpArgs false
set_option linter.defProp false
set_option linter.unusedSectionVars false
namespace Go.Ds
set_option maxRecDepth 100000
theorem c5d : lV ([(24, 9)].flatMap sL) = true := by kernel_rfl
theorem c1M : lV ([(96, 9)].flatMap sL) = true := by kernel_rfl
theorem c4N : lV ([(8, 7)].flatMap sL) = true := by kernel_rfl
theorem c2s : lV ([(64, 7)].flatMap sL) = true := by kernel_rfl
theorem c3E : uF [40, 48, 56, 64] = true := by kernel_rfl
theorem c4J : vJ ([(2, 2, 0), (4, 4, 0), (8, 6, 5), (8, 8, 0), (10, 8, 4), (12, 8, 7), (16, 10, 8), (16, 12, 5), (16, 14, 2)].flatMap a7J) = true := by kernel_rfl
theorem c3Y : vJ ([(40, 24, 9), (40, 32, 4), (40, 40, 0), (48, 32, 7), (48, 40, 3), (48, 48, 0), (56, 32, 10)].flatMap a7J) = true := by kernel_rfl
theorem c3U : lV ([(28, 2)].flatMap sL) = true := by kernel_rfl
end Go.Ds
