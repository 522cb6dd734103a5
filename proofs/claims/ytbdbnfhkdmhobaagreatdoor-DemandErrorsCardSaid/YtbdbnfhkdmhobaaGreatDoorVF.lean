/-
  A part of the proof of DemandErrors.
-/
import Derived.Test.YtbdbnfhkdmhobaaGreatDoorVC
set_option linter.unusedVariables false
set_option linter.unusedSimpArgs false
set_option linter.defProp false
set_option linter.unusedSectionVars false
namespace Go.Ds
set_option maxRecDepth 100000
theorem c2i : lL ([(24, 9)].flatMap rJ) = true := by kernel_rfl
theorem c1Q : lL ([(96, 9)].flatMap rJ) = true := by kernel_rfl
theorem c2q : lL ([(8, 7)].flatMap rJ) = true := by kernel_rfl
theorem c1n : lL ([(64, 7)].flatMap rJ) = true := by kernel_rfl
theorem c2N : uC [40, 48, 56, 64] = true := by kernel_rfl
theorem c4a : tO ([(2, 2, 0), (4, 4, 0), (8, 6, 5), (8, 8, 0), (10, 8, 4), (12, 8, 7), (16, 10, 8), (16, 12, 5), (16, 14, 2)].flatMap a5N) = true := by kernel_rfl
theorem c4e : tO ([(40, 24, 9), (40, 32, 4), (40, 40, 0), (48, 32, 7), (48, 40, 3), (48, 48, 0), (56, 32, 10)].flatMap a5N) = true := by kernel_rfl
theorem c3C : lL ([(28, 2)].flatMap rJ) = true := by kernel_rfl
end Go.Ds
