/-
  A part of the proof of SilenceAdds.
-/
import Derived.Test.YtmhekfhdnednjaaGreatDoorVC
set_option linter.unusedVariables false
set_option linter.unusedSimpArgs false
set_option linter.defProp false
set_option linter.unusedSectionVars false
namespace Go.Ds
set_option maxRecDepth 100000
theorem c4F : lZ ([(24, 9)].flatMap sB) = true := by kernel_rfl
theorem c2z : lZ ([(96, 9)].flatMap sB) = true := by kernel_rfl
theorem c2N : lZ ([(8, 7)].flatMap sB) = true := by kernel_rfl
theorem c0G : lZ ([(64, 7)].flatMap sB) = true := by kernel_rfl
theorem c4B : tZ [40, 48, 56, 64] = true := by kernel_rfl
theorem c4e : uU ([(2, 2, 0), (4, 4, 0), (8, 6, 5), (8, 8, 0), (10, 8, 4), (12, 8, 7), (16, 10, 8), (16, 12, 5), (16, 14, 2)].flatMap a7M) = true := by kernel_rfl
theorem c4q : uU ([(40, 24, 9), (40, 32, 4), (40, 40, 0), (48, 32, 7), (48, 40, 3), (48, 48, 0), (56, 32, 10)].flatMap a7M) = true := by kernel_rfl
theorem c5c : lZ ([(28, 2)].flatMap sB) = true := by kernel_rfl
end Go.Ds
