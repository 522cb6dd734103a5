/-
  A part of the proof of SoundRegistrations.
-/
import Derived.Test.YtmhekfhdnednjaaGreatDoorVC
set_option linter.unusedVariables false
set_option linter.unusedSimpArgs false
set_option linter.defProp false
set_option linter.unusedSectionVars false
namespace Go.Ds
set_option maxRecDepth 100000
theorem b8Y : kY ([(56, 9)].flatMap qF) = true := by kernel_rfl
theorem c2m : kY ([(12, 5), (14, 2)].flatMap qF) = true := by kernel_rfl
theorem b8r : kY ([(80, 8)].flatMap qF) = true := by kernel_rfl
theorem c1E : sP [2, 4, 6, 8] = true := by kernel_rfl
theorem c0H : sP [10, 12, 14, 16] = true := by kernel_rfl
theorem c0B : sP [160, 192, 256, 320] = true := by kernel_rfl
theorem c1t : sN ([(80, 64, 4), (80, 80, 0), (96, 56, 9), (96, 64, 7), (96, 96, 0), (128, 80, 8), (128, 112, 2)].flatMap a4V) = true := by kernel_rfl
theorem c2G : b8a [2, 4, 6, 8, 10, 12, 14, 16, 20, 24, 28, 32, 40, 48, 56, 64, 80, 96, 112, 128, 160, 192, 256, 320] = true := by kernel_rfl
end Go.Ds
