/-
  A part of the proof of SoundContacts.
-/
import Derived.Test.YtnokpoinacbjiaaGreatDoorVC
set_option linter.unusedVariables false
set_option linter.unusedSimpArgs false
set_option linter.defProp false
set_option linter.unusedSectionVars false
namespace Go.Ds
set_option maxRecDepth 100000
theorem c3n : lL ([(24, 9)].flatMap qR) = true := by kernel_rfl
theorem c3p : lL ([(10, 8)].flatMap qR) = true := by kernel_rfl
theorem b9U : lL ([(80, 8)].flatMap qR) = true := by kernel_rfl
theorem c2F : tM [2, 4, 6, 8] = true := by kernel_rfl
theorem c2k : tM [10, 12, 14, 16] = true := by kernel_rfl
theorem c2s : tM [160, 192, 256, 320] = true := by kernel_rfl
theorem c1S : tF ([(96, 56, 9), (96, 64, 7), (96, 96, 0), (128, 80, 8), (128, 112, 2)].flatMap a6o) = true := by kernel_rfl
theorem c4i : b8x [2, 4, 6, 8, 10, 12, 14, 16, 20, 24, 28, 32, 40, 48, 56, 64, 80, 96, 112, 128, 160, 192, 256, 320] = true := by kernel_rfl
end Go.Ds
