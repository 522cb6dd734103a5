/-
  A part of the proof of SilenceAdds.
-/
import Derived.Test.YtmhekfhdnednjaaGreatDoorVC
set_option linter.unusedVariables false
set_option linter.unusedSimpArgs false
set_option linter.defProp false
set_option linter.unusedSectionVars false
namespace Go.Ds
set_option maxRecDepth 100000
theorem c2e : lZ ([(48, 9)].flatMap sB) = true := by kernel_rfl
theorem c3p : lZ ([(10, 8)].flatMap sB) = true := by kernel_rfl
theorem c4n : lZ ([(40, 8)].flatMap sB) = true := by kernel_rfl
theorem c1Y : lZ ([(128, 7)].flatMap sB) = true := by kernel_rfl
theorem c4b : tZ [80, 96, 112, 128] = true := by kernel_rfl
theorem c3X : uU ([(16, 16, 0), (20, 16, 4), (24, 16, 7), (24, 24, 0), (32, 20, 8), (32, 24, 5), (32, 28, 2), (32, 32, 0)].flatMap a7M) = true := by kernel_rfl
theorem c3Y : uU ([(64, 40, 8), (64, 48, 5), (64, 56, 2), (64, 64, 0), (80, 48, 9), (80, 56, 6)].flatMap a7M) = true := by kernel_rfl
theorem c1m : lZ ([(112, 2)].flatMap sB) = true := by kernel_rfl
end Go.Ds
