/-
  A part of the proof of SoundRegistrations.
-/
import Derived.Test.YtmhekfhdnednjaaGreatDoorVC
set_option linter.unusedVariables false
set_option linter.unusedSimpArgs false
set_option linter.defProp false
set_option linter.unusedSectionVars false
namespace Go.Ds
set_option maxRecDepth 100000
theorem b8B : kY ([(48, 9)].flatMap qF) = true := by kernel_rfl
theorem c0D : kY ([(10, 8)].flatMap qF) = true := by kernel_rfl
theorem c1H : kY ([(40, 8)].flatMap qF) = true := by kernel_rfl
theorem b8j : kY ([(128, 7)].flatMap qF) = true := by kernel_rfl
theorem c0z : sP [80, 96, 112, 128] = true := by kernel_rfl
theorem c0t : sN ([(16, 16, 0), (20, 16, 4), (24, 16, 7), (24, 24, 0), (32, 20, 8), (32, 24, 5), (32, 28, 2), (32, 32, 0)].flatMap a4V) = true := by kernel_rfl
theorem c1a : sN ([(64, 40, 8), (64, 48, 5), (64, 56, 2), (64, 64, 0), (80, 48, 9), (80, 56, 6)].flatMap a4V) = true := by kernel_rfl
theorem b9p : kY ([(112, 2)].flatMap qF) = true := by kernel_rfl
end Go.Ds
