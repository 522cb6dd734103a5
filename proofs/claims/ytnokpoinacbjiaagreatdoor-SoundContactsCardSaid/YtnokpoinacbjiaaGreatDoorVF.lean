/-
  A part of the proof of SoundContacts.
-/
import Derived.Test.YtnokpoinacbjiaaGreatDoorVC
set_option linter.unusedVariables false
set_option linter.unusedSimpArgs false
set_option linter.defProp false
set_option linter.unusedSectionVars false
namespace Go.Ds
set_option maxRecDepth 100000
theorem b9S : lL ([(48, 9)].flatMap qR) = true := by kernel_rfl
theorem c2R : lL ([(12, 5), (14, 2)].flatMap qR) = true := by kernel_rfl
theorem c2t : lL ([(2, 0), (4, 0), (6, 5)].flatMap qR) = true := by kernel_rfl
theorem c2u : lL ([(32, 7)].flatMap qR) = true := by kernel_rfl
theorem c2D : tM [20, 24, 28, 32] = true := by kernel_rfl
theorem c0k : lL ([(256, 4)].flatMap qR) = true := by kernel_rfl
theorem c2W : tF ([(160, 96, 9), (160, 128, 4), (192, 128, 7), (320, 256, 4)].flatMap a6o) = true := by kernel_rfl
end Go.Ds
