/-
  A part of the proof of SoundRegistrations.
-/
import Derived.Test.YtmhekfhdnednjaaGreatDoorVC
set_option linter.unusedVariables false
set_option linter.unusedSimpArgs false
set_option linter.defProp false
set_option linter.unusedSectionVars false
namespace Go.Ds
set_option maxRecDepth 100000
theorem c2r : kY ([(32, 10)].flatMap qF) = true := by kernel_rfl
theorem c0u : kY ([(20, 8)].flatMap qF) = true := by kernel_rfl
theorem c1Y : kY ([(2, 0), (4, 0), (6, 5)].flatMap qF) = true := by kernel_rfl
theorem c2a : kY ([(16, 7)].flatMap qF) = true := by kernel_rfl
theorem c1I : sP [20, 24, 28, 32] = true := by kernel_rfl
theorem b9X : kY ([(256, 4)].flatMap qF) = true := by kernel_rfl
theorem c0A : sN ([(160, 96, 9), (160, 128, 4), (192, 128, 7), (320, 256, 4)].flatMap a4V) = true := by kernel_rfl
end Go.Ds
