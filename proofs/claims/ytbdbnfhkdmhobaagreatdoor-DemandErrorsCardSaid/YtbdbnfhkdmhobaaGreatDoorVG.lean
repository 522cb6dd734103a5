/-
  A part of the proof of DemandErrors.
-/
import Derived.Test.YtbdbnfhkdmhobaaGreatDoorVC
set_option linter.unusedVariables false
set_option linter.unusedSimpArgs false
set_option linter.defProp false
set_option linter.unusedSectionVars false
namespace Go.Ds
set_option maxRecDepth 100000
theorem c0A : lL ([(48, 9)].flatMap rJ) = true := by kernel_rfl
theorem c4c : lL ([(10, 8)].flatMap rJ) = true := by kernel_rfl
theorem c2z : lL ([(40, 8)].flatMap rJ) = true := by kernel_rfl
theorem c0w : lL ([(128, 7)].flatMap rJ) = true := by kernel_rfl
theorem c2I : uC [80, 96, 112, 128] = true := by kernel_rfl
theorem c4g : tO ([(16, 16, 0), (20, 16, 4), (24, 16, 7), (24, 24, 0), (32, 20, 8), (32, 24, 5), (32, 28, 2), (32, 32, 0)].flatMap a5N) = true := by kernel_rfl
theorem c4f : tO ([(64, 40, 8), (64, 48, 5), (64, 56, 2), (64, 64, 0), (80, 48, 9), (80, 56, 6)].flatMap a5N) = true := by kernel_rfl
theorem c1y : lL ([(112, 2)].flatMap rJ) = true := by kernel_rfl
end Go.Ds
